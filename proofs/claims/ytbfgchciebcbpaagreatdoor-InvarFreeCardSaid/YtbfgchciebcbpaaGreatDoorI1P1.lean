/- A part of the proof; what it holds is told at each theorem. -/
import Derived.Test.YtbfgchciebcbpaaGreatDoorI1XPlA
import Derived.Test.YtbfgchciebcbpaaGreatDoorI1V3
import Derived.Test.YtbfgchciebcbpaaGreatDoorI1T2
import Derived.KernelRfl
set_option linter.unusedVariables false
set_option linter.unusedSimpArgs false
set_option linter.unusedSectionVars false
set_option linter.deprecated false
namespace Go.Vm
open Go Go.RowKit
def Qg {α:Type}(o:Option α)(Q:α→Prop):Prop:=∃r,o=some r∧Q r
section
variable {α β σ ρ:Type}
theorem Qg.ok {a:α}{Q:α→Prop}(h:Q a):Qg (some a) Q:=⟨a,rfl,h⟩
theorem Qg.okT {a:α}:Qg (some a) fun _=>True:=⟨a,rfl,trivial⟩
theorem Qg.bind {o:Option α}{f:α→Option β}{P:α→Prop}{Q:β→Prop}(h:Qg o P)(k:∀x,P x→Qg (f x) Q):Qg (o.bind f) Q:=by
 obtain⟨x,rfl,hx⟩:=h
 exact k x hx
theorem Qg.bif {c:Bool}{a b:Option α}{Q:α→Prop}(h1:c=true→Qg a Q)(h2:c=false→Qg b Q):Qg (bif c then a else b) Q:=by
 cases c with
 | true=>exact h1 rfl
 | false=>exact h2 rfl
theorem Qg.chk {c:Bool}(h:c=true):Qg (chk c) fun _=>True:=⟨(),Qie h,trivial⟩
theorem Qg.idx {l:List α}{j:Int}(h0:0≤j)(h1:j<l.length):Qg (idx l j) fun x=>x∈l:=by
 rw [Qvw h0 h1]
 exact⟨_,rfl,Qei _⟩
theorem Qg.get {l:List α}{j:Nat}(h1:j<l.length):Qg (l[j]?) fun x=>x∈l:=by
 rw [QH h1]
 exact⟨_,rfl,Qei _⟩
theorem Qg.sidx {s:ByteArray}{j:Int}(h0:0≤j)(h1:j<s.size):Qg (sidx s j) fun _=>True:=by
 unfold Vm.sidx
 rw [if_pos h0]
 have:j.toNat<s.size:=by omega
 rw [getElem?_pos s j.toNat this]
 exact⟨_,rfl,trivial⟩
theorem Qg.mono {o:Option α}{P Q:α→Prop}(h:Qg o P)(k:∀x,P x→Q x):Qg o Q:=let ⟨r,h1,h2⟩:=h;⟨r,h1,k r h2⟩
theorem Qg.tot {o:Option α}{P:α→Prop}(h:Qg o P):∃r,o=some r:=let ⟨r,h1,_⟩:=h;⟨r,h1⟩
theorem Qg.self {o:Option α}{P:α→Prop}(h:Qg o P):Qg o fun x=>o=some x∧P x:=let ⟨r,h1,h2⟩:=h;⟨r,h1,h1,h2⟩
theorem Qg.up {body:σ→Option (σ⊕ρ)}(n:Nat)(ix:σ→Int)(J:σ→Prop){Q:ρ→Prop}{s0:σ}(h0:ix s0=0)(hJ:J s0)
  (step:∀(i:Nat) s,ix s=(i:Int)→i≤n→J s→Qg (body s) fun o=>(∀s',o=.inl s'→i<n∧ix s'=((i+1:Nat):Int)∧J s')∧∀r,o=.inr r→Q r):Qg (Qy body s0) Q:=by
 have key:∀k i s,i+k=n→ix s=(i:Int)→J s→∃r,Qy body s=some r∧Q r:=by
  intro k
  induction k with
  | zero=>
   intro i s hk hi hj
   obtain⟨o,ho,h1,h2⟩:=step i s hi (by omega) hj
   rw [Qdp,ho]
   cases o with
   | inl s'=>have:=(h1 s' rfl).1;omega
   | inr r=>exact⟨r,rfl,h2 r rfl⟩
  | succ k ih=>
   intro i s hk hi hj
   obtain⟨o,ho,h1,h2⟩:=step i s hi (by omega) hj
   rw [Qdp,ho]
   cases o with
   | inl s'=>
    obtain⟨_,h3,h4⟩:=h1 s' rfl
    exact ih (i+1) s' (by omega) h3 h4
   | inr r=>exact⟨r,rfl,h2 r rfl⟩
 exact key n 0 s0 (by omega) h0 hJ
theorem QN {s:σ}{n i:Nat}{ix:σ→Int}{J:σ→Prop}{Q:ρ→Prop}(h:i<n∧ix s=((i+1:Nat):Int)∧J s):
  (∀s',(Sum.inl s:σ⊕ρ)=.inl s'→i<n∧ix s'=((i+1:Nat):Int)∧J s')∧∀r,(Sum.inl s:σ⊕ρ)=.inr r→Q r:=
 ⟨fun s' e=>(by cases e;exact h),fun r e=>(by cases e)⟩
theorem Qs {r:ρ}{n i:Nat}{ix:σ→Int}{J:σ→Prop}{Q:ρ→Prop}(h:Q r):
  (∀s',(Sum.inr r:σ⊕ρ)=.inl s'→i<n∧ix s'=((i+1:Nat):Int)∧J s')∧∀r',(Sum.inr r:σ⊕ρ)=.inr r'→Q r':=
 ⟨fun s' e=>(by cases e),fun r' e=>(by cases e;exact h)⟩
end
def QO {α:Type}(ok:α→Prop)(l:List α):Prop:=l.length≤maxLen∧∀x∈l,ok x
theorem QO.drop {α:Type}{ok:α→Prop}{l:List α}(h:QO ok l)(k:Nat):QO ok (l.drop k):=⟨by have:=h.1;rw [Qjo];omega,fun x hx=>h.2 x (Qmo hx)⟩
theorem QO.take {α:Type}{ok:α→Prop}{l:List α}(h:QO ok l)(k:Nat):QO ok (l.take k):=⟨by have:=h.1;rw [Qfb];omega,fun x hx=>h.2 x (QfM hx)⟩
theorem QO.nil {α:Type}{ok:α→Prop}:QO ok ([]:List α):=⟨by simp,fun x h=>by cases h⟩
theorem QO.app {α:Type}{ok:α→Prop}{l m:List α}(h:QO ok l)(hm:QO ok m)(hs:l.length+m.length≤maxLen):QO ok (l++m):=⟨by simpa using hs,fun x hx=>by rcases QeG.1 hx with h1 | h1;exact h.2 x h1;exact hm.2 x h1⟩
def Qet (s:ByteArray):Prop:=s.size≤maxLen
theorem Qvy {s:ByteArray}(h:QfP s (⟨#[]⟩:ByteArray)=false):0<s.size:=by
 apply QnR
 intro h0
 have:s=⟨#[]⟩:=by
  obtain⟨a⟩:=s
  have:a=#[]:=Array.eq_empty_of_size_eq_zero h0
  rw [this]
 subst this
 simp [QfP]at h
theorem Qjj {a b:Int}:0≤min2 a b↔0≤a∧0≤b:=by unfold min2;split<;>omega
theorem Qjk {a b n:Int}:max2 a b<n↔a<n∧b<n:=by unfold max2;split<;>omega
theorem Qif {a b n:Int}:max2 a b≤n↔a≤n∧b≤n:=by unfold max2;split<;>omega
abbrev T0:=@Qg.bind
abbrev T1:=@Qg.bif
abbrev T2:=@Qg.ok
abbrev T3:=@Qg.okT
abbrev T4:=@Qg.idx
abbrev T5:=@Qg.chk
abbrev T6:=@Qg.mono
end Go.Vm
namespace Go.Vm
open Go Go.RowKit
def Asc (l:List (Int×Int)):Prop:=l.Pairwise fun p q=>p.1<q.1
def QxE (l:List (Int×Int)):Prop:=l.Pairwise fun p q=>p.1≠q.1
theorem Asc.nd {l:List (Int×Int)}(h:Asc l):QxE l:=h.imp fun h=>by omega
section
variable {ρ:Type}{g:Int→Int→Int}{stop:Int→Bool}{q:Option ρ}{body:List (Int×Int)→Int×Int→Option (List (Int×Int)⊕ρ)}
end
def Rt (l:List (Int×Int)):Prop:=Asc l∧∀p∈l,0≤p.1∧1≤p.2∧p.2≤1048576
theorem Rt.nil : Rt []:=⟨List.Pairwise.nil,fun p h=>by cases h⟩
end Go.Vm
noncomputable section
namespace Go.Proofs
open Go Go.RowKit Go.Vm
inductive Qcs : Qk→Prop where
 | mk (e:Qk):e.Kids.length≤maxLen→(∀k∈e.Kids,Qcs k)→Qcs e
theorem Qc9 {e:Qk}(h:Qcs e):QO Qcs e.Kids:=by
 cases h with
 | mk _ h1 h2=>exact⟨h1,h2⟩
theorem QrQ {e k:Qk}(h:k∈e.Kids):SizeOf.sizeOf k<SizeOf.sizeOf e:=by
 obtain⟨a,b,l⟩:=e
 have:=List.sizeOf_lt_of_mem h
 simp only [Qk.mk.sizeOf_spec]at *
 omega
theorem Qk.pos (e:Qk):0<SizeOf.sizeOf e:=by
 obtain⟨a,b,l⟩:=e
 simp only [Qk.mk.sizeOf_spec];omega
inductive POk (v:Int):Qk→Prop where
 | mk (e:Qk):(e.Kind=1∨e.Kind=2∨e.Kind=3∨e.Kind=4∨e.Kind=5∨e.Kind=6)→(e.Kind=2→0≤e.Num∧e.Num<v)→(e.Kind=3∨e.Kind=4→e.Kids.length=1)→(e.Kind=5→e.Kids.length=2)→(e.Kind=6→e.Kids.length=3)→(∀k∈e.Kids,POk v k)→POk v e
def Qcx (x:QI):Prop:=Qet x.Name∧True∧True∧True∧(QO Qet) x.Names∧True∧True
def QbO (x:QG):Prop:=Qet x.Name∧True∧(QO (fun _=>True)) x.First
def QcL (x:Qae):Prop:=Qet x.Name∧True
def QiG (x:QP):Prop:=True∧Qcs x.Expr
def Qad (x:Qw):Prop:=Qet x.Name∧(QO QcL) x.Vars∧Qcs x.Guard∧True∧True∧(QO QiG) x.Ins∧(QO QiG) x.Outs∧(QO (fun _=>True)) x.Cancel∧True∧True
def QD (x:Qm):Prop:=(QO Qcx) x.Colours∧(QO QbO) x.Places∧(QO Qad) x.Tasks∧True∧True
def Qs1 (x:QcU):Prop:=(QO Qcx) x.all∧(QO (fun _=>True)) x.sizes∧True
theorem QrR (v1:Qm)(h_v1:QD v1):Qg (QiP v1) fun r=>True:=by
 unfold QiP
 exact T3
theorem Qbw (l1:(List QG))(k2:Int)(h_l1:(QO QbO) l1):Qg (Qai l1 k2) fun r=>r=true→0≤k2∧k2<l1.length:=by
 unfold Qai
 exact T2 (by first | (intro hr;first | (cases hr;done) | omega | ((try simp only [Qu,Qcl,Qe8,QeF,Qjm,QZ,Qb7,beq_iff_eq,bne_iff_ne,ne_eq,Qmh,Qmg,QfL,Qka,Qjq,Qjo,Qfb,Qfa,Qjj,Qjk,Qif]at *);omega)) | ((try simp only [Qu,Qcl,Qe8,QeF,Qjm,QZ,Qb7,beq_iff_eq,bne_iff_ne,ne_eq,Qmh,Qmg,QfL,Qka,Qjq,Qjo,Qfb,Qfa,Qjj,Qjk,Qif]at *);omega) | simp_all)
theorem QrS (v1:Qm)(h_v1:QD v1):Qg (QiQ v1) fun r=>True:=by
 unfold QiQ
 refine T0 (P:=fun _=>True) ?_ (fun x_1 hv2=>?_)
 ·unfold QlM
  refine T0 (Qbw v1.Places v1.From (h_v1.2.1)) (fun x_3 hv4=>?_)
  refine T1 (fun hc5=>?_) (fun hc5=>?_)
  ·refine T0 (Qbw v1.Places v1.To (h_v1.2.1)) (fun x_6 hv7=>?_)
   exact T3
  exact T3
 unfold QfW
 exact T3
theorem QrT (v1:Qm)(h_v1:QD v1):Qg (QiR v1) fun r=>True:=by
 unfold QiR
 exact T3
theorem QrU (v1:Qm)(v2:Int)(v3:Int)(v4:Int)(h_v1:QD v1):Qg (QiS v1 v2 v3 v4) fun r=>True:=by
 unfold QiS
 refine T0 (QrR v1 (h_v1)) (fun x_1 hv2=>?_)
 refine T1 (fun hc3=>?_) (fun hc3=>?_)
 ·exact T3
 refine T0 (QrS v1 (h_v1)) (fun x_4 hv5=>?_)
 refine T1 (fun hc6=>?_) (fun hc6=>?_)
 ·exact T3
 refine T0 (QrT v1 (h_v1)) (fun x_7 hv8=>?_)
 refine T1 (fun hc9=>?_) (fun hc9=>?_)
 ·exact T3
 exact T3
theorem QrV (lo1:Int)(hi2:Int)  : Qg (QiT lo1 hi2) fun r=>True:=by
 unfold QiT
 refine T1 (fun hc1=>?_) (fun hc1=>?_)
 ·exact T3
 exact T3
theorem QkZ (c1:Int)  : Qg (Qdg c1) fun r=>True:=by
 unfold Qdg
 exact T3
theorem QjM (s1:ByteArray)(h_s1:Qet s1):Qg (QeD s1) fun r=>True:=by
 unfold QeD
 refine T0 (P:=fun _=>True) ?_ (fun x_1 hv2=>?_)
 ·unfold QlN
  refine T1 (fun hc3=>?_) (fun hc3=>?_)
  ·exact T3
  have hshc3:=Qvy hc3
  refine T1 (fun hc4=>?_) (fun hc4=>?_)
  ·exact T3
  refine T0 (Qg.sidx (by omega) (by omega)) (fun c_5 hv6=>?_)
  refine T0 (QkZ c_5 ) (fun x_7 hv8=>?_)
  exact T3
 unfold Qf1
 refine T1 (fun hc9=>?_) (fun hc9=>?_)
 ·exact T3
 refine T0 (Qg.up (s1.size) (fun st=>st) (fun _=>True) (Q:=fun q=>True) rfl trivial (fun i11 st hi12 hn13 hj14=>?_)) (fun q15 hq16=>?_)
 ·obtain⟨x_10,hst⟩:∃y,y=st:=⟨_,rfl⟩
  subst hst
  replace hi12:x_10=(i11:Int):=hi12
  show Qg (QfY s1 x_10) _
  unfold QfY
  refine T1 (fun hc17=>?_) (fun hc17=>?_)
  ·refine T0 (Qg.sidx (by omega) (by simp_all)) (fun c_18 hv19=>?_)
   refine T0 (P:=fun _=>True) ?_ (fun x_20 hv21=>?_)
   ·unfold QlO
    refine T0 (QkZ c_18 ) (fun x_22 hv23=>?_)
    refine T1 (fun hc24=>?_) (fun hc24=>?_)
    ·refine T1 (fun hc25=>?_) (fun hc25=>?_)
     ·exact T3
     refine T1 (fun hc26=>?_) (fun hc26=>?_)
     ·exact T3
     exact T3
    exact T3
   unfold QfX
   refine T1 (fun hc27=>?_) (fun hc27=>?_)
   ·exact T2 (Qs trivial)
   exact T2 (QN ⟨(by simp_all),by subst hi12;exact QB (by simp_all) h_s1,trivial⟩)
  exact T2 (Qs trivial)
 rcases q15 with q15 | q15
 ·show Qg (QfZ) _
  unfold QfZ
  exact T3
 show Qg (Qf0) _
 unfold Qf0
 exact T3
theorem Qq6 (l1:(List ByteArray))(h_l1:(QO Qet) l1):Qg (Qh0 l1) fun r=>True:=by
 unfold Qh0
 refine T0 (Qg.up (l1.length) (fun st=>st.1) (fun _=>True) (Q:=fun q=>True) rfl trivial (fun i3 st hi4 hn5 hj6=>?_)) (fun q7 hq8=>?_)
 ·obtain⟨x_1,m_2⟩:=st
  replace hi4:x_1=(i3:Int):=hi4
  show Qg (Qfe l1 x_1 m_2) _
  unfold Qfe
  refine T1 (fun hc9=>?_) (fun hc9=>?_)
  ·refine T0 (T4 (by omega) (by simp_all)) (fun e_10 hv11=>?_)
   refine T0 (P:=fun _=>True) ?_ (fun x_12 hv13=>?_)
   ·unfold QkR
    refine T0 (QjM e_10 (((h_l1).2 e_10 hv11))) (fun x_14 hv15=>?_)
    refine T1 (fun hc16=>?_) (fun hc16=>?_)
    ·exact T3
    exact T3
   unfold Qfd
   refine T1 (fun hc17=>?_) (fun hc17=>?_)
   ·exact T2 (Qs trivial)
   exact T2 (QN ⟨(by simp_all),by subst hi4;exact QB (by simp_all) (h_l1).1,trivial⟩)
  exact T2 (Qs trivial)
 rcases q7 with q7 | q7
 ·show Qg (Qff) _
  unfold Qff
  exact T3
 show Qg (Qfg) _
 unfold Qfg
 exact T3
theorem QrW (c1:QI)(ahead2:(List Int))(h_c1:Qcx c1)(h_ahead2:(QO (fun _=>True)) ahead2):Qg (QiU c1 ahead2) fun r=>True:=by
 unfold QiU
 refine T1 (fun hc1=>?_) (fun hc1=>?_)
 ·refine T0 (QrV c1.Lo c1.Hi ) (fun x_2 hv3=>?_)
  exact T3
 refine T1 (fun hc4=>?_) (fun hc4=>?_)
 ·refine T0 (Qq6 c1.Names (h_c1.2.2.2.2.1)) (fun x_5 hv6=>?_)
  refine T1 (fun hc7=>?_) (fun hc7=>?_)
  ·exact T3
  unfold Qb6
  exact T3
 refine T1 (fun hc8=>?_) (fun hc8=>?_)
 ·refine T1 (fun hc9=>?_) (fun hc9=>?_)
  ·refine T0 (T4 (by(try simp only [Qu,Qcl,Qe8,QeF,Qjm,QZ,Qb7,beq_iff_eq,bne_iff_ne,ne_eq,Qmh,Qmg,QfL,Qka,Qjq,Qjo,Qfb,Qfa,Qjj,Qjk,Qif]at *);omega) (by(try simp only [Qu,Qcl,Qe8,QeF,Qjm,QZ,Qb7,beq_iff_eq,bne_iff_ne,ne_eq,Qmh,Qmg,QfL,Qka,Qjq,Qjo,Qfb,Qfa,Qjj,Qjk,Qif]at *);omega)) (fun e_10 hv11=>?_)
   refine T0 (T4 (by(try simp only [Qu,Qcl,Qe8,QeF,Qjm,QZ,Qb7,beq_iff_eq,bne_iff_ne,ne_eq,Qmh,Qmg,QfL,Qka,Qjq,Qjo,Qfb,Qfa,Qjj,Qjk,Qif]at *);omega) (by(try simp only [Qu,Qcl,Qe8,QeF,Qjm,QZ,Qb7,beq_iff_eq,bne_iff_ne,ne_eq,Qmh,Qmg,QfL,Qka,Qjq,Qjo,Qfb,Qfa,Qjj,Qjk,Qif]at *);omega)) (fun e_12 hv13=>?_)
   exact T3
  unfold Qb6
  exact T3
 unfold Qb6
 exact T3
theorem Ql1 (l1:(List QI))(h_l1:(QO Qcx) l1):Qg (Qfw l1) fun r=>((QO (fun _=>True)) r.1∧True)∧(r.2=true→r.1.length=l1.length∧∀x∈r.1,1≤x∧x≤1024):=by
 unfold Qfw
 refine T1 (fun hc=>T2 ⟨⟨QO.nil,trivial⟩,fun h=>by cases h⟩) (fun hc=>?_)
 have hl:l1.length≤32:=by simp only [Qb7]at hc;omega
 refine T0 (Qg.up l1.length (fun st=>st.1) (fun st=>(st.2.2.length:Int)=st.1∧∀x∈st.2.2,1≤x∧x≤1024) (Q:=fun q=>∀l,q=.inr l→l.length=l1.length∧∀x∈l,1≤x∧x≤1024) rfl ⟨rfl,fun x h=>(by cases h)⟩ (fun i st hi hn hj=>?_)) (fun q hq=>?_)
 ·obtain⟨x,m,l⟩:=st
  replace hi:x=(i:Int):=hi
  replace hj:(l.length:Int)=x∧∀x∈l,1≤x∧x≤1024:=hj
  obtain⟨hj,hj2⟩:=hj
  show Qg (Qfi l1 x m l) _
  unfold Qfi
  refine T1 (fun hc2=>?_) (fun hc2=>?_)
  ·simp only [QZ]at hc2
   refine T0 (T4 (by omega) (by omega)) fun e he=>?_
   refine T0 (QrW e l (h_l1.2 e he) ⟨by unfold maxLen;omega,fun _ _=>trivial⟩) fun y _=>?_
   refine T0 (P:=fun z=>z=false→1≤y∧y≤1024) ?_ fun z hz=>?_
   ·unfold QkS
    refine T0 (QjM e.Name (h_l1.2 e he).1) fun z _=>?_
    refine T1 (fun _=>T2 (fun h=>by cases h)) fun _=>T1 (fun _=>T2 (fun h=>by cases h)) fun _=>T1 (fun _=>T2 (fun h=>by cases h)) fun h1=>T2 fun h2=>?_
    simp only [Qb7]at h1 h2
    omega
   unfold Qfh
   refine T1 (fun _=>T2 (Qs fun l h=>by cases h)) fun hz0=>?_
   refine T0 (T5 (by simp;omega)) fun _ _=>?_
   exact T2 (QN ⟨by omega,by subst hi;exact QB (by omega) (by unfold maxLen;omega:l1.length≤maxLen),by simp only [QfL,Qka];subst hi;rw [QB (show i<l1.length by omega) (by unfold maxLen;omega)];omega,fun u hu=>by
    rcases QeG.1 hu with hu | hu
    ·exact hj2 u hu
    simp at hu;subst hu;exact hz hz0⟩)
  simp only [Qb7]at hc2
  exact T2 (Qs fun l' h=>by cases h;exact⟨by omega,hj2⟩)
 rcases q with q | q
 ·exact T2 ⟨⟨QO.nil,trivial⟩,fun h=>by cases h⟩
 have:=hq q rfl
 exact T2 ⟨⟨⟨by show q.length≤maxLen;unfold maxLen;omega,fun _ _=>trivial⟩,trivial⟩,fun _=>this⟩
theorem Qq7 (l1:(List QI))(h_l1:(QO Qcx) l1):Qg (Qh1 l1) fun r=>True:=by
 unfold Qh1
 refine T0 (Ql1 l1 (h_l1)) (fun x_1 hv2=>?_)
 exact T3
theorem QnC (v1:Qm)(v2:Int)(h_v1:QD v1)(hp0:0≤v2)(hp1:v2<v1.Colours.length):Qg (Qel v1 v2) fun r=>True:=by
 have hl:=h_v1.1.1
 unfold maxLen at hl
 unfold Qel
 rw [Qba (show -9223372036854775808≤v2+1∧v2+1≤9223372036854775807 by omega)]
 refine T0 (T5 (by simp only [Qu,QZ];omega)) fun _ _=>?_
 exact T0 (Qq7 _ ((h_v1.1.drop _).take _)) fun x _=>T3
def QrX : List ByteArray:=(Qgr).getD []
set_option maxRecDepth 100000 in
theorem Qwe : Qgr=some QrX:=by kernel_rfl
set_option maxRecDepth 100000 in
theorem Quj : (decide (QrX.length≤1000)&&QrX.all fun s=>decide (s.size≤1000))=true:=by kernel_rfl
theorem QrY : Qg (Qgr) fun r=>QO Qet r:=by
 have h:=Quj
 rw [Qu,decide_eq_true_iff,QQ]at h
 refine⟨QrX,Qwe,by unfold maxLen;omega,fun x hx=>?_⟩
 have:=h.2 x hx
 rw [decide_eq_true_iff]at this
 unfold Qet maxLen;omega
theorem QjN (s1:(List ByteArray))(v2:ByteArray)(h_s1:(QO Qet) s1)(h_v2:Qet v2):Qg (QbN s1 v2) fun r=>True:=by
 unfold QbN
 refine T0 (Qg.up (s1.length) (fun st=>st) (fun _=>True) (Q:=fun q=>True) rfl trivial (fun i2 st hi3 hn4 hj5=>?_)) (fun q6 hq7=>?_)
 ·obtain⟨x_1,hst⟩:∃y,y=st:=⟨_,rfl⟩
  subst hst
  replace hi3:x_1=(i2:Int):=hi3
  show Qg (Qbl s1 v2 x_1) _
  unfold Qbl
  refine T1 (fun hc8=>?_) (fun hc8=>?_)
  ·refine T0 (T4 (by omega) (by simp_all)) (fun e_9 hv10=>?_)
   refine T1 (fun hc11=>?_) (fun hc11=>?_)
   ·exact T2 (Qs trivial)
   exact T2 (QN ⟨(by simp_all),by subst hi3;exact QB (by simp_all) (h_s1).1,trivial⟩)
  exact T2 (Qs trivial)
 rcases q6 with q6 | q6
 ·show Qg (Qbm q6) _
  unfold Qbm
  exact T3
 show Qg (Qbn) _
 unfold Qbn
 exact T3
theorem QiH (s1:(List ByteArray))(v2:ByteArray)(h_s1:(QO Qet) s1)(h_v2:Qet v2):Qg (Qbo s1 v2) fun r=>True:=by
 unfold Qbo
 refine T0 (QjN s1 v2 (h_s1) (h_v2)) (fun x_1 hv2=>?_)
 exact T3
theorem Qsx (s1:ByteArray)(h_s1:Qet s1):Qg (QjG s1) fun r=>True:=by
 unfold QjG
 refine T0 (QrY  ) (fun x_1 hv2=>?_)
 refine T0 (QiH x_1 s1 (hv2) (h_s1)) (fun x_3 hv4=>?_)
 exact T3
theorem QfC (s1:ByteArray)(h_s1:Qet s1):Qg (Qc8 s1) fun r=>True:=by
 unfold Qc8
 refine T0 (P:=fun _=>True) ?_ (fun x_1 hv2=>?_)
 ·unfold QmJ
  refine T0 (QjM s1 (h_s1)) (fun x_3 hv4=>?_)
  refine T1 (fun hc5=>?_) (fun hc5=>?_)
  ·refine T0 (Qsx s1 (h_s1)) (fun x_6 hv7=>?_)
   exact T3
  exact T3
 unfold Qg2
 exact T3
theorem Qma (s1:ByteArray)(h_s1:Qet s1):Qg (Qdh s1) fun r=>True:=by
 unfold Qdh
 refine T0 (QfC s1 (h_s1)) (fun x_1 hv2=>?_)
 exact T3
theorem Qit (s1:(List ByteArray))(h_s1:(QO Qet) s1):Qg (Qbd s1) fun r=>True:=by
 unfold Qbd
 refine T0 (Qg.up (s1.length) (fun st=>st) (fun _=>True) (Q:=fun q=>True) rfl trivial (fun i2 st hi3 hn4 hj5=>?_)) (fun q6 hq7=>?_)
 ·obtain⟨x_1,hst⟩:∃y,y=st:=⟨_,rfl⟩
  subst hst
  replace hi3:x_1=(i2:Int):=hi3
  show Qg (QaP s1 x_1) _
  unfold QaP
  refine T1 (fun hc8=>?_) (fun hc8=>?_)
  ·refine T0 (T4 (by omega) (by simp_all)) (fun e_9 hv10=>?_)
   refine T0 (Qma e_9 (((h_s1).2 e_9 hv10))) (fun x_11 hv12=>?_)
   refine T1 (fun hc13=>?_) (fun hc13=>?_)
   ·exact T2 (Qs trivial)
   exact T2 (QN ⟨(by simp_all),by subst hi3;exact QB (by simp_all) (h_s1).1,trivial⟩)
  exact T2 (Qs trivial)
 rcases q6 with q6 | q6
 ·show Qg (QaQ q6) _
  unfold QaQ
  exact T3
 show Qg (QaR) _
 unfold QaR
 exact T3
theorem Qhh (s1:(List ByteArray))(h_s1:(QO Qet) s1):Qg (QaS s1) fun r=>True:=by
 unfold QaS
 refine T0 (Qit s1 (h_s1)) (fun x_1 hv2=>?_)
 exact T3
theorem QnD (v1:QI)(h_v1:Qcx v1):Qg (Qem v1) fun r=>True:=by
 unfold Qem
 refine T0 (P:=fun _=>True) ?_ (fun x_1 hv2=>?_)
 ·unfold QiF
  refine T0 (QfC v1.Name (h_v1.1)) (fun x_3 hv4=>?_)
  refine T1 (fun hc5=>?_) (fun hc5=>?_)
  ·refine T1 (fun hc6=>?_) (fun hc6=>?_)
   ·exact T3
   refine T0 (Qhh v1.Names (h_v1.2.2.2.2.1)) (fun x_7 hv8=>?_)
   exact T3
  exact T3
 unfold QcV
 exact T3
theorem Qpx (v1:Qm)(v2:Int)(v3:Int)(v4:QI)(v5:Int)(h_v1:QD v1)(h_v4:Qcx v4)(hp0:0≤v2)(hp1:v2<v1.Colours.length):Qg (Qf2 v1 v2 v3 v4 v5) fun r=>True:=by
 unfold Qf2
 refine T0 (QnC v1 v2 (h_v1) (by omega) (by omega)) (fun x_1 hv2=>?_)
 refine T1 (fun hc3=>?_) (fun hc3=>?_)
 ·exact T3
 refine T0 (QnD v4 (h_v4)) (fun x_4 hv5=>?_)
 refine T1 (fun hc6=>?_) (fun hc6=>?_)
 ·exact T3
 exact T3
theorem QoR (k1:Int)(c2:QI)(v3:Qm)(h_c2:Qcx c2)(h_v3:QD v3)(hp0:0≤k1)(hp1:k1<v3.Colours.length):Qg (Qfj k1 c2 v3) fun r=>True:=by
 unfold Qfj
 refine T0 (Qpx v3 k1 8 c2 8 (h_v3) (h_c2) (by omega) (by omega)) (fun x_1 hv2=>?_)
 exact T3
theorem Qlf (l1:(List QI))(v2:Qm)(h_l1:(QO Qcx) l1)(h_v2:QD v2)(hp0:l1.length≤v2.Colours.length):Qg (QcD l1 v2) fun r=>True:=by
 unfold QcD
 refine T0 (Qg.up (l1.length) (fun st=>st) (fun _=>True) (Q:=fun q=>True) rfl trivial (fun i2 st hi3 hn4 hj5=>?_)) (fun q6 hq7=>?_)
 ·obtain⟨x_1,hst⟩:∃y,y=st:=⟨_,rfl⟩
  subst hst
  replace hi3:x_1=(i2:Int):=hi3
  show Qg (QbY l1 v2 x_1) _
  unfold QbY
  refine T1 (fun hc8=>?_) (fun hc8=>?_)
  ·refine T0 (T4 (by omega) (by simp_all)) (fun e_9 hv10=>?_)
   refine T0 (QoR x_1 e_9 v2 (((h_l1).2 e_9 hv10)) (h_v2) (by omega) (by simp_all;omega)) (fun x_11 hv12=>?_)
   refine T1 (fun hc13=>?_) (fun hc13=>?_)
   ·exact T2 (Qs trivial)
   exact T2 (QN ⟨(by simp_all),by subst hi3;exact QB (by simp_all) (h_l1).1,trivial⟩)
  exact T2 (Qs trivial)
 rcases q6 with q6 | q6
 ·show Qg (QbZ q6.1 q6.2) _
  unfold QbZ
  exact T3
 show Qg (Qb0) _
 unfold Qb0
 exact T3
theorem Qk0 (n1:Qm)(h_n1:QD n1):Qg (QeQ n1) fun r=>True:=by
 unfold QeQ
 refine T0 (Qlf n1.Colours n1 (h_n1.1) (h_n1) (by omega)) (fun x_1 hv2=>?_)
 exact T3
theorem Qqm (v1:QG)(h_v1:QbO v1):Qg (Qg3 v1) fun r=>True:=by
 unfold Qg3
 refine T0 (QfC v1.Name (h_v1.1)) (fun x_1 hv2=>?_)
 exact T3
theorem Qqn (p1:QG)(v2:QG)(h_p1:QbO p1)(h_v2:QbO v2):Qg (Qg4 p1 v2) fun r=>True:=by
 unfold Qg4
 exact T3
theorem Qgm (s1:(List QG))(v2:QG)(h_s1:(QO QbO) s1)(h_v2:QbO v2):Qg (QaE s1 v2) fun r=>True:=by
 unfold QaE
 refine T0 (Qg.up (s1.length) (fun st=>st) (fun _=>True) (Q:=fun q=>True) rfl trivial (fun i2 st hi3 hn4 hj5=>?_)) (fun q6 hq7=>?_)
 ·obtain⟨x_1,hst⟩:∃y,y=st:=⟨_,rfl⟩
  subst hst
  replace hi3:x_1=(i2:Int):=hi3
  show Qg (Qam s1 v2 x_1) _
  unfold Qam
  refine T1 (fun hc8=>?_) (fun hc8=>?_)
  ·refine T0 (T4 (by omega) (by simp_all)) (fun e_9 hv10=>?_)
   refine T0 (Qqn e_9 v2 (((h_s1).2 e_9 hv10)) (h_v2)) (fun x_11 hv12=>?_)
   refine T1 (fun hc13=>?_) (fun hc13=>?_)
   ·exact T2 (Qs trivial)
   exact T2 (QN ⟨(by simp_all),by subst hi3;exact QB (by simp_all) (h_s1).1,trivial⟩)
  exact T2 (Qs trivial)
 rcases q6 with q6 | q6
 ·show Qg (Qan q6) _
  unfold Qan
  exact T3
 show Qg (Qao) _
 unfold Qao
 exact T3
theorem Qe7 (s1:(List QG))(v2:QG)(h_s1:(QO QbO) s1)(h_v2:QbO v2):Qg (Qap s1 v2) fun r=>True:=by
 unfold Qap
 refine T0 (Qgm s1 v2 (h_s1) (h_v2)) (fun x_1 hv2=>?_)
 exact T3
theorem Qqo (v1:Qm)(v2:Int)(v3:QG)(h_v1:QD v1)(h_v3:QbO v3)(hp0:0≤v2)(hp1:v2<v1.Places.length):Qg (Qg5 v1 v2 v3) fun r=>True:=by
 unfold Qg5
 refine T0 (T5 (by simp_all;omega)) (fun _ _=>?_)
 refine T0 (Qe7 ((v1.Places.drop 0).take (v2.toNat-0)) v3 (((h_v1.2.1).drop _).take _) (h_v3)) (fun x_1 hv2=>?_)
 exact T3
theorem Qgx (l1:(List QI))(k2:Int)(h_l1:(QO Qcx) l1):Qg (QbE l1 k2) fun r=>True:=by
 unfold QbE
 exact T3
theorem Qqp (v1:Qm)(v2:QG)(h_v1:QD v1)(h_v2:QbO v2):Qg (Qg6 v1 v2) fun r=>True:=by
 unfold Qg6
 refine T0 (Qgx v1.Colours v2.Colour (h_v1.1)) (fun x_1 hv2=>?_)
 exact T3
theorem Qs2 (b1:(List (Int×Int)))(h_b1:(QO (fun _=>True)) b1):Qg (QiD b1) fun r=>True:=by
 unfold QiD
 refine T0 (Qg.up (b1.length) (fun st=>st.2) (fun _=>True) (Q:=fun q=>True) rfl trivial (fun i3 st hi4 hn5 hj6=>?_)) (fun q7 hq8=>?_)
 ·obtain⟨last_1,x_2⟩:=st
  replace hi4:x_2=(i3:Int):=hi4
  show Qg (QhP b1 last_1 x_2) _
  unfold QhP
  refine T1 (fun hc9=>?_) (fun hc9=>?_)
  ·refine T0 (T4 (by omega) (by simp_all)) (fun e_10 hv11=>?_)
   refine T1 (fun hc12=>?_) (fun hc12=>?_)
   ·exact T2 (Qs trivial)
   exact T2 (QN ⟨(by simp_all),by subst hi4;exact QB (by simp_all) (h_b1).1,trivial⟩)
  exact T2 (Qs trivial)
 rcases q7 with q7 | q7
 ·show Qg (QhQ) _
  unfold QhQ
  exact T3
 show Qg (QhR) _
 unfold QhR
 exact T3
theorem Qqq (v1:QG)(h_v1:QbO v1):Qg (Qg7 v1) fun r=>True:=by
 unfold Qg7
 refine T0 (Qs2 v1.First (h_v1.2.2)) (fun x_1 hv2=>?_)
 exact T3
theorem Qs3 (l1:(List QI))(k2:Int)(h_l1:(QO Qcx) l1):Qg (Qkk l1 k2) fun r=>(True∧Qs1 r.2)∧(r.1=true→(0≤k2∧k2<r.2.sizes.length)∧r.2.k=k2∧r.2.all.length=r.2.sizes.length∧∀x∈r.2.sizes,1≤x∧x≤1024):=by
 unfold Qkk
 refine T0 (Ql1 l1 h_l1) fun x hx=>?_
 refine T1 (fun _=>T2 ⟨⟨trivial,QO.nil,QO.nil,trivial⟩,fun h=>by cases h⟩) fun hc=>?_
 simp only [Qe8,Qjm,Qb7]at hc
 have:=hx.2 hc.1
 exact T2 ⟨⟨trivial,h_l1,hx.1.1,trivial⟩,fun _=>⟨⟨by omega,by show k2<(x.1.length:Int);omega⟩,rfl,this.1.symm,this.2⟩⟩
theorem QmO (l1:(List QI))(k2:Int)(h_l1:(QO Qcx) l1):Qg (Qgs l1 k2) fun r=>0≤r∧r≤1024:=by
 unfold Qgs
 refine T0 (Qs3 l1 k2 h_l1) (fun x hx=>?_)
 refine T1 (fun hc=>T2 (by omega)) (fun hc=>?_)
 have h:=hx.2 (by simpa using hc)
 exact T0 (T4 (by omega) (by omega)) fun e he=>T2 (by have:=h.2.2.2 e he;omega)
theorem QoS (row1:(Int×Int))(v2:Int)  : Qg (Qfk row1 v2) fun r=>True:=by
 unfold Qfk
 exact T3
theorem Qiu (s1:(List (Int×Int)))(v2:Int)(h_s1:(QO (fun _=>True)) s1):Qg (Qbe s1 v2) fun r=>True:=by
 unfold Qbe
 refine T0 (Qg.up (s1.length) (fun st=>st) (fun _=>True) (Q:=fun q=>True) rfl trivial (fun i2 st hi3 hn4 hj5=>?_)) (fun q6 hq7=>?_)
 ·obtain⟨x_1,hst⟩:∃y,y=st:=⟨_,rfl⟩
  subst hst
  replace hi3:x_1=(i2:Int):=hi3
  show Qg (QaT s1 v2 x_1) _
  unfold QaT
  refine T1 (fun hc8=>?_) (fun hc8=>?_)
  ·refine T0 (T4 (by omega) (by simp_all)) (fun e_9 hv10=>?_)
   refine T0 (QoS e_9 v2 ) (fun x_11 hv12=>?_)
   refine T1 (fun hc13=>?_) (fun hc13=>?_)
   ·exact T2 (Qs trivial)
   exact T2 (QN ⟨(by simp_all),by subst hi3;exact QB (by simp_all) (h_s1).1,trivial⟩)
  exact T2 (Qs trivial)
 rcases q6 with q6 | q6
 ·show Qg (QaU q6) _
  unfold QaU
  exact T3
 show Qg (QaV) _
 unfold QaV
 exact T3
theorem Qhi (s1:(List (Int×Int)))(v2:Int)(h_s1:(QO (fun _=>True)) s1):Qg (QaW s1 v2) fun r=>True:=by
 unfold QaW
 refine T0 (Qiu s1 v2 (h_s1)) (fun x_1 hv2=>?_)
 exact T3
theorem Qqr (v1:Qm)(v2:QG)(h_v1:QD v1)(h_v2:QbO v2):Qg (Qg8 v1 v2) fun r=>True:=by
 unfold Qg8
 refine T0 (QmO v1.Colours v2.Colour (h_v1.1)) (fun x_1 hv2=>?_)
 refine T0 (Qhi v2.First x_1 (h_v2.2.2)) (fun x_3 hv4=>?_)
 exact T3
theorem Qpy (v1:QG)(v2:Int)(v3:Qm)(v4:Int)(v5:Int)(v6:Int)(v7:Int)(v8:Int)(h_v1:QbO v1)(h_v3:QD v3)(hp0:0≤v4)(hp1:v4<v3.Places.length):Qg (Qf3 v1 v2 v3 v4 v5 v6 v7 v8) fun r=>True:=by
 unfold Qf3
 refine T0 (Qqm v1 (h_v1)) (fun x_1 hv2=>?_)
 refine T1 (fun hc3=>?_) (fun hc3=>?_)
 ·exact T3
 refine T0 (Qqo v3 v4 v1 (h_v3) (h_v1) (by omega) (by omega)) (fun x_4 hv5=>?_)
 refine T1 (fun hc6=>?_) (fun hc6=>?_)
 ·exact T3
 refine T0 (Qqp v3 v1 (h_v3) (h_v1)) (fun x_7 hv8=>?_)
 refine T1 (fun hc9=>?_) (fun hc9=>?_)
 ·exact T3
 refine T0 (Qqq v1 (h_v1)) (fun x_10 hv11=>?_)
 refine T1 (fun hc12=>?_) (fun hc12=>?_)
 ·exact T3
 refine T0 (Qqr v3 v1 (h_v3) (h_v1)) (fun x_13 hv14=>?_)
 refine T1 (fun hc15=>?_) (fun hc15=>?_)
 ·exact T3
 exact T3
theorem QrZ (n1:Qm)(k2:Int)(h_n1:QD n1):Qg (QiV n1 k2) fun r=>True:=by
 unfold QiV
 refine T0 (Qbw n1.Places k2 (h_n1.2.1)) (fun x_1 hv2=>?_)
 refine T1 (fun hc3=>?_) (fun hc3=>?_)
 ·exact T3
 refine T0 (T4 (by simp_all) (by simp_all)) (fun e_4 hv5=>?_)
 refine T0 (Qpy e_4 1 n1 k2 5 3 1 8 (((h_n1.2.1).2 e_4 hv5)) (h_n1) (by simp_all) (by simp_all)) (fun x_6 hv7=>?_)
 exact T3
theorem Qr0 (k1:Int)(p2:QG)(v3:Qm)(h_p2:QbO p2)(h_v3:QD v3):Qg (QiW k1 p2 v3) fun r=>True:=by
 unfold QiW
 refine T0 (QrZ v3 k1 (h_v3)) (fun x_1 hv2=>?_)
 exact T3
theorem Ql2 (l1:(List QG))(v2:Qm)(h_l1:(QO QbO) l1)(h_v2:QD v2):Qg (QcW l1 v2) fun r=>True:=by
 unfold QcW
 refine T0 (Qg.up (l1.length) (fun st=>st) (fun _=>True) (Q:=fun q=>True) rfl trivial (fun i2 st hi3 hn4 hj5=>?_)) (fun q6 hq7=>?_)
 ·obtain⟨x_1,hst⟩:∃y,y=st:=⟨_,rfl⟩
  subst hst
  replace hi3:x_1=(i2:Int):=hi3
  show Qg (Qcc l1 v2 x_1) _
  unfold Qcc
  refine T1 (fun hc8=>?_) (fun hc8=>?_)
  ·refine T0 (T4 (by omega) (by simp_all)) (fun e_9 hv10=>?_)
   refine T0 (Qr0 x_1 e_9 v2 (((h_l1).2 e_9 hv10)) (h_v2)) (fun x_11 hv12=>?_)
   refine T1 (fun hc13=>?_) (fun hc13=>?_)
   ·exact T2 (Qs trivial)
   exact T2 (QN ⟨(by simp_all),by subst hi3;exact QB (by simp_all) (h_l1).1,trivial⟩)
  exact T2 (Qs trivial)
 rcases q6 with q6 | q6
 ·show Qg (Qcd q6.1 q6.2) _
  unfold Qcd
  exact T3
 show Qg (Qce) _
 unfold Qce
 exact T3
theorem QhC (l1:(List Qw))(k2:Int)(h_l1:(QO Qad) l1):Qg (QbU l1 k2) fun r=>r=true→0≤k2∧k2<l1.length:=by
 unfold QbU
 exact T2 (by first | (intro hr;first | (cases hr;done) | omega | ((try simp only [Qu,Qcl,Qe8,QeF,Qjm,QZ,Qb7,beq_iff_eq,bne_iff_ne,ne_eq,Qmh,Qmg,QfL,Qka,Qjq,Qjo,Qfb,Qfa,Qjj,Qjk,Qif]at *);omega)) | ((try simp only [Qu,Qcl,Qe8,QeF,Qjm,QZ,Qb7,beq_iff_eq,bne_iff_ne,ne_eq,Qmh,Qmg,QfL,Qka,Qjq,Qjo,Qfb,Qfa,Qjj,Qjk,Qif]at *);omega) | simp_all)
theorem Qr1 (v1:Int)(v2:Qm)(v3:Qw)(h_v2:QD v2)(h_v3:Qad v3):Qg (QiX v1 v2 v3) fun r=>True:=by
 unfold QiX
 exact T3
theorem Qpz (v1:Int)(v2:Qm)(v3:Qw)(v4:Int)(h_v2:QD v2)(h_v3:Qad v3):Qg (Qf4 v1 v2 v3 v4) fun r=>True:=by
 unfold Qf4
 exact T3
theorem QpA (v1:Int)(v2:Qm)(v3:Qw)(v4:Int)(h_v2:QD v2)(h_v3:Qad v3):Qg (Qf5 v1 v2 v3 v4) fun r=>True:=by
 unfold Qf5
 exact T3
theorem QpB (v1:Int)(v2:Qm)(v3:Qw)(h_v2:QD v2)(h_v3:Qad v3):Qg (Qf6 v1 v2 v3) fun r=>True:=by
 unfold Qf6
 exact T3
theorem Qq8 (v1:Qw)(h_v1:Qad v1):Qg (Qh4 v1) fun r=>True:=by
 unfold Qh4
 refine T0 (QfC v1.Name (h_v1.1)) (fun x_1 hv2=>?_)
 exact T3
theorem Qq9 (p1:Qw)(v2:Qw)(h_p1:Qad p1)(h_v2:Qad v2):Qg (Qh5 p1 v2) fun r=>True:=by
 unfold Qh5
 exact T3
theorem QgJ (s1:(List Qw))(v2:Qw)(h_s1:(QO Qad) s1)(h_v2:Qad v2):Qg (QaN s1 v2) fun r=>True:=by
 unfold QaN
 refine T0 (Qg.up (s1.length) (fun st=>st) (fun _=>True) (Q:=fun q=>True) rfl trivial (fun i2 st hi3 hn4 hj5=>?_)) (fun q6 hq7=>?_)
 ·obtain⟨x_1,hst⟩:∃y,y=st:=⟨_,rfl⟩
  subst hst
  replace hi3:x_1=(i2:Int):=hi3
  show Qg (Qax s1 v2 x_1) _
  unfold Qax
  refine T1 (fun hc8=>?_) (fun hc8=>?_)
  ·refine T0 (T4 (by omega) (by simp_all)) (fun e_9 hv10=>?_)
   refine T0 (Qq9 e_9 v2 (((h_s1).2 e_9 hv10)) (h_v2)) (fun x_11 hv12=>?_)
   refine T1 (fun hc13=>?_) (fun hc13=>?_)
   ·exact T2 (Qs trivial)
   exact T2 (QN ⟨(by simp_all),by subst hi3;exact QB (by simp_all) (h_s1).1,trivial⟩)
  exact T2 (Qs trivial)
 rcases q6 with q6 | q6
 ·show Qg (Qay q6) _
  unfold Qay
  exact T3
 show Qg (Qaz) _
 unfold Qaz
 exact T3
theorem QfE (s1:(List Qw))(v2:Qw)(h_s1:(QO Qad) s1)(h_v2:Qad v2):Qg (QaA s1 v2) fun r=>True:=by
 unfold QaA
 refine T0 (QgJ s1 v2 (h_s1) (h_v2)) (fun x_1 hv2=>?_)
 exact T3
theorem Qra (v1:Qm)(v2:Int)(v3:Qw)(h_v1:QD v1)(h_v3:Qad v3)(hp0:0≤v2)(hp1:v2<v1.Tasks.length):Qg (Qh6 v1 v2 v3) fun r=>True:=by
 unfold Qh6
 refine T0 (T5 (by simp_all;omega)) (fun _ _=>?_)
 refine T0 (QfE ((v1.Tasks.drop 0).take (v2.toNat-0)) v3 (((h_v1.2.2.1).drop _).take _) (h_v3)) (fun x_1 hv2=>?_)
 exact T3
theorem Qrb (v1:Int)(v2:Qw)(h_v2:Qad v2):Qg (Qfy v1 v2) fun r=>True:=by
 unfold Qfy
 exact T3
theorem Qmb (v1:Qae)(h_v1:QcL v1):Qg (Qdi v1) fun r=>True:=by
 unfold Qdi
 refine T0 (QfC v1.Name (h_v1.1)) (fun x_1 hv2=>?_)
 exact T3
theorem Qmc (p1:Qae)(v2:Qae)(h_p1:QcL p1)(h_v2:QcL v2):Qg (Qdj p1 v2) fun r=>True:=by
 unfold Qdj
 exact T3
theorem QhD (s1:(List Qae))(v2:Qae)(h_s1:(QO QcL) s1)(h_v2:QcL v2):Qg (Qa1 s1 v2) fun r=>True:=by
 unfold Qa1
 refine T0 (Qg.up (s1.length) (fun st=>st) (fun _=>True) (Q:=fun q=>True) rfl trivial (fun i2 st hi3 hn4 hj5=>?_)) (fun q6 hq7=>?_)
 ·obtain⟨x_1,hst⟩:∃y,y=st:=⟨_,rfl⟩
  subst hst
  replace hi3:x_1=(i2:Int):=hi3
  show Qg (QaI s1 v2 x_1) _
  unfold QaI
  refine T1 (fun hc8=>?_) (fun hc8=>?_)
  ·refine T0 (T4 (by omega) (by simp_all)) (fun e_9 hv10=>?_)
   refine T0 (Qmc e_9 v2 (((h_s1).2 e_9 hv10)) (h_v2)) (fun x_11 hv12=>?_)
   refine T1 (fun hc13=>?_) (fun hc13=>?_)
   ·exact T2 (Qs trivial)
   exact T2 (QN ⟨(by simp_all),by subst hi3;exact QB (by simp_all) (h_s1).1,trivial⟩)
  exact T2 (Qs trivial)
 rcases q6 with q6 | q6
 ·show Qg (QaJ q6) _
  unfold QaJ
  exact T3
 show Qg (QaK) _
 unfold QaK
 exact T3
theorem Qgy (s1:(List Qae))(v2:Qae)(h_s1:(QO QcL) s1)(h_v2:QcL v2):Qg (QaL s1 v2) fun r=>True:=by
 unfold QaL
 refine T0 (QhD s1 v2 (h_s1) (h_v2)) (fun x_1 hv2=>?_)
 exact T3
theorem Qmd (v1:(List Qae))(v2:Int)(v3:Qae)(h_v1:(QO QcL) v1)(h_v3:QcL v3)(hp0:0≤v2)(hp1:v2<v1.length):Qg (Qdk v1 v2 v3) fun r=>True:=by
 unfold Qdk
 refine T0 (T5 (by simp_all;omega)) (fun _ _=>?_)
 refine T0 (Qgy ((v1.drop 0).take (v2.toNat-0)) v3 (((h_v1).drop _).take _) (h_v3)) (fun x_1 hv2=>?_)
 exact T3
theorem Qme (v1:Qm)(v2:Qae)(h_v1:QD v1)(h_v2:QcL v2):Qg (Qdl v1 v2) fun r=>True:=by
 unfold Qdl
 refine T0 (Qgx v1.Colours v2.Colour (h_v1.1)) (fun x_1 hv2=>?_)
 exact T3
theorem QpC (v1:Qae)(v2:Int)(v3:(List Qae))(v4:Int)(v5:Int)(v6:Qm)(v7:Int)(h_v1:QcL v1)(h_v3:(QO QcL) v3)(h_v6:QD v6)(hp0:0≤v4)(hp1:v4<v3.length):Qg (Qf8 v1 v2 v3 v4 v5 v6 v7) fun r=>True:=by
 unfold Qf8
 refine T0 (Qmb v1 (h_v1)) (fun x_1 hv2=>?_)
 refine T1 (fun hc3=>?_) (fun hc3=>?_)
 ·exact T3
 refine T0 (Qmd v3 v4 v1 (h_v3) (h_v1) (by omega) (by omega)) (fun x_4 hv5=>?_)
 refine T1 (fun hc6=>?_) (fun hc6=>?_)
 ·exact T3
 refine T0 (Qme v6 v1 (h_v6) (h_v1)) (fun x_7 hv8=>?_)
 refine T1 (fun hc9=>?_) (fun hc9=>?_)
 ·exact T3
 exact T3
theorem QnE (k1:Int)(v2:Qae)(v3:(List Qae))(v4:Qm)(h_v2:QcL v2)(h_v3:(QO QcL) v3)(h_v4:QD v4)(hp0:0≤k1)(hp1:k1<v3.length):Qg (Qen k1 v2 v3 v4) fun r=>True:=by
 unfold Qen
 refine T0 (QpC v2 1 v3 k1 5 v4 3 (h_v2) (h_v3) (h_v4) (by omega) (by omega)) (fun x_1 hv2=>?_)
 exact T3
theorem Qm8 (l1:(List Qae))(v2:(List Qae))(v3:Qm)(h_l1:(QO QcL) l1)(h_v2:(QO QcL) v2)(h_v3:QD v3)(hp0:l1.length≤v2.length):Qg (QdF l1 v2 v3) fun r=>True:=by
 unfold QdF
 refine T0 (Qg.up (l1.length) (fun st=>st) (fun _=>True) (Q:=fun q=>True) rfl trivial (fun i2 st hi3 hn4 hj5=>?_)) (fun q6 hq7=>?_)
 ·obtain⟨x_1,hst⟩:∃y,y=st:=⟨_,rfl⟩
  subst hst
  replace hi3:x_1=(i2:Int):=hi3
  show Qg (QcE l1 v2 v3 x_1) _
  unfold QcE
  refine T1 (fun hc8=>?_) (fun hc8=>?_)
  ·refine T0 (T4 (by omega) (by simp_all)) (fun e_9 hv10=>?_)
   refine T0 (QnE x_1 e_9 v2 v3 (((h_l1).2 e_9 hv10)) (h_v2) (h_v3) (by omega) (by simp_all;omega)) (fun x_11 hv12=>?_)
   refine T1 (fun hc13=>?_) (fun hc13=>?_)
   ·exact T2 (Qs trivial)
   exact T2 (QN ⟨(by simp_all),by subst hi3;exact QB (by simp_all) (h_l1).1,trivial⟩)
  exact T2 (Qs trivial)
 rcases q6 with q6 | q6
 ·show Qg (QcF q6.1 q6.2) _
  unfold QcF
  exact T3
 show Qg (QcG) _
 unfold QcG
 exact T3
theorem QoT (n1:Qm)(l2:(List Qae))(h_n1:QD n1)(h_l2:(QO QcL) l2):Qg (Qfl n1 l2) fun r=>True:=by
 unfold Qfl
 refine T0 (Qm8 l2 l2 n1 (h_l2) (h_l2) (h_n1) (by omega)) (fun x_1 hv2=>?_)
 exact T3
theorem Qrc (v1:Qm)(v2:Qw)(h_v1:QD v1)(h_v2:Qad v2):Qg (Qh7 v1 v2) fun r=>True:=by
 unfold Qh7
 refine T0 (QoT v1 v2.Vars (h_v1) (h_v2.2.1)) (fun x_1 hv2=>?_)
 exact T3
theorem Qqs (v1:Qm)(v2:Qw)(v3:Int)(h_v1:QD v1)(h_v2:Qad v2):Qg (Qha v1 v2 v3) fun r=>True:=by
 unfold Qha
 refine T0 (Qrc v1 v2 (h_v1) (h_v2)) (fun x_1 hv2=>?_)
 exact T3
theorem Qr2 (n1:Qm)(k2:Int)(h_n1:QD n1):Qg (QiY n1 k2) fun r=>True:=by
 unfold QiY
 refine T0 (QhC n1.Tasks k2 (h_n1.2.2.1)) (fun x_1 hv2=>?_)
 refine T1 (fun hc3=>?_) (fun hc3=>?_)
 ·exact T3
 refine T0 (T4 (by simp_all) (by simp_all)) (fun e_4 hv5=>?_)
 refine T0 (Qg.up (e_4.Vars.length) (fun st=>st.2) (fun _=>True) (Q:=fun q=>True) rfl trivial (fun i8 st hi9 hn10 hj11=>?_)) (fun q12 hq13=>?_)
 ·obtain⟨out_6,x_7⟩:=st
  replace hi9:x_7=(i8:Int):=hi9
  show Qg (Qf9 e_4 n1 out_6 x_7) _
  unfold Qf9
  refine T1 (fun hc14=>?_) (fun hc14=>?_)
  ·refine T0 (T4 (by omega) (by simp_all)) (fun e_15 hv16=>?_)
   refine T0 (QmO n1.Colours e_15.Colour (h_n1.1)) (fun x_17 hv18=>?_)
   refine T1 (fun hc19=>?_) (fun hc19=>?_)
   ·exact T2 (Qs trivial)
   exact T2 (QN ⟨(by simp_all),by subst hi9;exact QB (by simp_all) (((h_n1.2.2.1).2 e_4 hv5).2.1).1,trivial⟩)
  exact T2 (Qs trivial)
 rcases q12 with q12 | q12
 ·show Qg (Qga) _
  unfold Qga
  exact T3
 show Qg (Qgb q12) _
 unfold Qgb
 exact T3
theorem Qrd (v1:Qm)(v2:Int)(h_v1:QD v1):Qg (Qh8 v1 v2) fun r=>True:=by
 unfold Qh8
 refine T0 (Qr2 v1 v2 (h_v1)) (fun x_1 hv2=>?_)
 exact T3
theorem Qs4 (kind1:Int):Qg (Qkl kind1) fun r=>0≤r→(kind1=1∨kind1=2∨kind1=3∨kind1=4∨kind1=5∨kind1=6)∧(kind1=3∨kind1=4→r=1)∧(kind1=5→r=2)∧(kind1=6→r=3):=by
 unfold Qkl
 refine T1 (fun hc=>?_) (fun hc=>?_)
 ·unfold QfA;rw [hc]
  simp only [beq_iff_eq]at hc
  exact T2 (by omega)
 simp only [beq_eq_false_iff_ne]at hc
 unfold QfA
 refine T1 (fun hc=>T2 (by simp only [beq_iff_eq]at hc;omega)) (fun hc2=>?_)
 simp only [beq_eq_false_iff_ne]at hc2
 refine T1 (fun hc3=>?_) (fun hc3=>?_)
 ·unfold Qfz;rw [hc3]
  simp only [beq_iff_eq]at hc3
  exact T2 (by omega)
 simp only [beq_eq_false_iff_ne]at hc3
 unfold Qfz
 refine T1 (fun hc=>T2 (by simp only [beq_iff_eq]at hc;omega)) (fun hc4=>?_)
 simp only [beq_eq_false_iff_ne]at hc4
 refine T1 (fun hc=>T2 (by simp only [beq_iff_eq]at hc;omega)) (fun hc5=>?_)
 simp only [beq_eq_false_iff_ne]at hc5
 exact T1 (fun hc=>T2 (by simp only [beq_iff_eq]at hc;omega)) (fun hc6=>T2 (by omega))
theorem Qsy (op1:Int)  : Qg (QjI op1) fun r=>True:=by
 unfold QjI
 exact T3
theorem Qj6 (rec_:Qk→Int→Option Bool)(s1:List Qk)(v2:Int)(h1:s1.length≤maxLen)(h:∀k∈s1,Qg (rec_ k v2) fun r=>r=true→POk v2 k):Qg (QaC rec_ s1 v2) fun r=>r=false→∀k∈s1,POk v2 k:=by
 unfold QaC QbF
 refine T0 (P:=fun x=>x<0→∀k∈s1,POk v2 k) ?_ fun x hx=>T2 fun h=>hx (by simp only [Qb7]at h;omega)
 refine T0 (Qg.up s1.length (fun st=>st) (fun st=>∀(j:Nat) k,(j:Int)<st→s1[j]? = some k→POk v2 k) (Q:=fun q=>(∀x,q=.inl x→0≤x)∧(q=.inr ()→∀k∈s1,POk v2 k)) rfl (fun j k hj=>by omega) (fun i st hi hn hj=>?_)) (fun q hq=>?_)
 ·show Qg (QaB s1 rec_ v2 st) _
  unfold QaB Qj3
  refine T1 (fun hc=>?_) (fun hc=>T2 (Qs ⟨fun x h=>(by cases h),fun _ k hk=>by
   obtain⟨j,hj1,hj2⟩:=Qmn.1 hk
   simp only [Qb7]at hc
   exact hj j k (by omega) (by rw [QH hj1,hj2])⟩))
  simp only [QZ]at hc
  rw [Qsw (by omega)]
  have hlt:st.toNat<s1.length:=by omega
  rw [QH hlt]
  refine T0 (P:=fun k=>k=s1[st.toNat]) (T2 rfl) fun k hk=>?_
  subst hk
  refine T0 (P:=fun r=>r=false→POk v2 s1[st.toNat]) (T0 (h _ (Qei hlt)) fun x hx=>T2 fun h=>hx (by simpa using h)) fun x hx=>?_
  refine T1 (fun _=>T2 (Qs ⟨fun x h=>(by cases h;omega),fun h=>(by cases h)⟩)) fun hxf=>T2 (QN ⟨by omega,by rw [hi];exact QB (by omega) h1,?_⟩)
  rw [hi,QB (show i<s1.length by omega) h1]
  intro j k hj' hk
  by_cases c:j=i
  ·subst c
   have e:st.toNat=j:=by omega
   have:=hx hxf
   rw [QH (by omega)]at hk
   cases hk
   simpa only [e] using this
  exact hj j k (by omega) hk
 rcases q with q | q
 ·exact T2 fun h=>absurd (hq.1 q rfl) (by omega)
 exact T2 fun _=>hq.2 rfl
theorem Ql3 : ∀(n:Nat) (e:Qk) (v:Int),Qcs e→SizeOf.sizeOf e≤n→Qg (QcR n e v) fun r=>r=true→POk v e
 | 0,e,_,_,h=>absurd e.pos (by omega)
 | n+1,e,v,he,h=>by
  unfold QcR Qj4
  refine T0 (Qs4 e.Kind) fun x hx=>?_
  refine T1 (fun _=>T2 fun h=>by cases h) fun h1=>T1 (fun _=>T2 fun h=>by cases h) fun h2=>?_
  refine T0 (P:=fun _=>True) ?_ fun y _=>?_
  ·unfold QmK
   exact T1 (fun _=>T0 (Qsy e.Num) fun x _=>T3) fun _=>T3
  unfold Qhc
  refine T1 (fun _=>T2 fun h=>by cases h) fun _=>?_
  refine T0 (Qj6 (QcR n) e.Kids v (Qc9 he).1 fun k hk=>Ql3 n k v ((Qc9 he).2 k hk) (by have:=QrQ hk;omega)) fun x hx2=>T2 fun hx3=>?_
  simp only [bne_eq_false_iff_eq]at h1
  have h3:=hx (by omega)
  simp only [Bool.and_eq_false_iff,Qe8,Qb7,beq_eq_false_iff_ne]at h2
  exact .mk e h3.1 (fun hk=>by omega) (fun hk=>by have:=h3.2.1 hk;omega) (fun hk=>by have:=h3.2.2.1 hk;omega) (fun hk=>by have:=h3.2.2.2 hk;omega) (hx2 (by simpa using hx3))
theorem Qsz (e1:Qk)(vars2:Int)(h_e1:Qcs e1):Qg (QlY e1 vars2) fun r=>r=true→POk vars2 e1:=Ql3 _ e1 vars2 h_e1 (QbJ _)
theorem Ql4 : ∀(n:Nat) (e:Qk),Qcs e→SizeOf.sizeOf e≤n→Qg (QcQ n e) fun _=>True
 | 0,e,_,h=>absurd e.pos (by omega)
 | n+1,e,he,h=>by
  unfold QcQ Qj1
  refine T0 (Qg.up e.Kids.length (fun st=>st.2) (fun _=>True) (Q:=fun _=>True) rfl trivial (fun i st hi hn _=>?_)) (fun q _=>?_)
  ·obtain⟨a,x⟩:=st
   replace hi:x=(i:Int):=hi
   show Qg (Qhb e (QcQ n) a x) _
   unfold Qhb
   refine T1 (fun hc=>?_) (fun hc=>?_)
   ·simp only [QZ]at hc
    refine T0 (T4 (by omega) (by omega)) fun k hk=>?_
    have:=QrQ hk
    refine T0 (Ql4 n k ((Qc9 he).2 k hk) (by omega)) fun d _=>?_
    exact T2 (QN ⟨by omega,by subst hi;exact QB (by omega) (Qc9 he).1,trivial⟩)
   exact T2 (Qs trivial)
  unfold QjH
  exact T3
theorem QsA (e1:Qk)(h_e1:Qcs e1):Qg (QlW e1) fun _=>True:=Ql4 _ e1 h_e1 (QbJ _)
theorem QmP : ∀(n:Nat) (e:Qk),Qcs e→SizeOf.sizeOf e≤n→Qg (Qdu n e) fun _=>True
 | 0,e,_,h=>absurd e.pos (by omega)
 | n+1,e,he,h=>by
  unfold Qdu QkD
  refine T0 (Qg.up e.Kids.length (fun st=>st.2) (fun _=>True) (Q:=fun _=>True) rfl trivial (fun i st hi hn _=>?_)) (fun q _=>?_)
  ·obtain⟨a,x⟩:=st
   replace hi:x=(i:Int):=hi
   show Qg (Qh9 e (Qdu n) a x) _
   unfold Qh9
   refine T1 (fun hc=>?_) (fun hc=>?_)
   ·simp only [QZ]at hc
    refine T0 (T4 (by omega) (by omega)) fun k hk=>?_
    have:=QrQ hk
    refine T0 (QmP n k ((Qc9 he).2 k hk) (by omega)) fun d _=>?_
    exact T2 (QN ⟨by omega,by subst hi;exact QB (by omega) (Qc9 he).1,trivial⟩)
   exact T2 (Qs trivial)
  unfold Qj2
  exact T3
theorem Qs5 (e1:Qk)(h_e1:Qcs e1):Qg (Qm5 e1) fun _=>True:=QmP _ e1 h_e1 (QbJ _)
theorem QnF (e1:Qk)(vars2:Int)(h_e1:Qcs e1):Qg (QhA e1 vars2) fun r=>r=true→POk vars2 e1:=by
 unfold QhA
 refine T0 (P:=fun r=>r=true→POk vars2 e1) ?_ (fun x hx=>T2 hx)
 unfold QmL
 refine T0 (QsA e1 h_e1) (fun x _=>?_)
 refine T1 (fun _=>?_) (fun _=>T2 fun h=>by cases h)
 refine T0 (Qs5 e1 h_e1) (fun x _=>?_)
 refine T1 (fun _=>?_) (fun _=>T2 fun h=>by cases h)
 exact T0 (Qsz e1 vars2 h_e1) (fun x hx=>T2 hx)
theorem Qre (v1:Qw)(v2:Int)(h_v1:Qad v1):Qg (Qia v1 v2) fun r=>True:=by
 unfold Qia
 refine T0 (P:=fun _=>True) ?_ (fun x_1 hv2=>?_)
 ·unfold QkY
  refine T0 (QnF v1.Guard v2 (h_v1.2.2.1)) (fun x_3 hv4=>?_)
  refine T1 (fun hc5=>?_) (fun hc5=>?_)
  ·refine T1 (fun hc6=>?_) (fun hc6=>?_)
   ·exact T3
   exact T3
  exact T3
 unfold Qfm
 exact T3
theorem QpD (v1:Qm)(v2:QP)(h_v1:QD v1)(h_v2:QiG v2):Qg (Qgc v1 v2) fun r=>True:=by
 unfold Qgc
 refine T0 (Qbw v1.Places v2.Place (h_v1.2.1)) (fun x_1 hv2=>?_)
 exact T3
theorem QpE (v1:QP)(v2:Int)(h_v1:QiG v1):Qg (Qgd v1 v2) fun r=>True:=by
 unfold Qgd
 refine T0 (QnF v1.Expr v2 (h_v1.2)) (fun x_1 hv2=>?_)
 exact T3
theorem QpF (v1:Qm)(v2:QP)(v3:Int)(v4:Int)(v5:Int)(h_v1:QD v1)(h_v2:QiG v2):Qg (Qge v1 v2 v3 v4 v5) fun r=>True:=by
 unfold Qge
 refine T0 (QpD v1 v2 (h_v1) (h_v2)) (fun x_1 hv2=>?_)
 refine T1 (fun hc3=>?_) (fun hc3=>?_)
 ·exact T3
 refine T0 (QpE v2 v4 (h_v2)) (fun x_4 hv5=>?_)
 refine T1 (fun hc6=>?_) (fun hc6=>?_)
 ·exact T3
 exact T3
theorem Qrf (p1:Int)(a2:QP)(v3:Qm)(v4:Int)(h_a2:QiG a2)(h_v3:QD v3):Qg (Qib p1 a2 v3 v4) fun r=>True:=by
 unfold Qib
 refine T0 (QpF v3 a2 3 v4 1 (h_v3) (h_a2)) (fun x_1 hv2=>?_)
 exact T3
theorem Qm9 (l1:(List QP))(v2:Qm)(v3:Int)(h_l1:(QO QiG) l1)(h_v2:QD v2):Qg (QdG l1 v2 v3) fun r=>True:=by
 unfold QdG
 refine T0 (Qg.up (l1.length) (fun st=>st) (fun _=>True) (Q:=fun q=>True) rfl trivial (fun i2 st hi3 hn4 hj5=>?_)) (fun q6 hq7=>?_)
 ·obtain⟨x_1,hst⟩:∃y,y=st:=⟨_,rfl⟩
  subst hst
  replace hi3:x_1=(i2:Int):=hi3
  show Qg (QcH l1 v2 v3 x_1) _
  unfold QcH
  refine T1 (fun hc8=>?_) (fun hc8=>?_)
  ·refine T0 (T4 (by omega) (by simp_all)) (fun e_9 hv10=>?_)
   refine T0 (Qrf x_1 e_9 v2 v3 (((h_l1).2 e_9 hv10)) (h_v2)) (fun x_11 hv12=>?_)
   refine T1 (fun hc13=>?_) (fun hc13=>?_)
   ·exact T2 (Qs trivial)
   exact T2 (QN ⟨(by simp_all),by subst hi3;exact QB (by simp_all) (h_l1).1,trivial⟩)
  exact T2 (Qs trivial)
 rcases q6 with q6 | q6
 ·show Qg (QcI q6.1 q6.2) _
  unfold QcI
  exact T3
 show Qg (QcJ) _
 unfold QcJ
 exact T3
theorem QnG (n1:Qm)(l2:(List QP))(vars3:Int)(h_n1:QD n1)(h_l2:(QO QiG) l2):Qg (QhB n1 l2 vars3) fun r=>True:=by
 unfold QhB
 refine T0 (Qm9 l2 n1 vars3 (h_l2) (h_n1)) (fun x_1 hv2=>?_)
 exact T3
theorem Qrg (v1:Qm)(v2:Qw)(v3:Int)(h_v1:QD v1)(h_v2:Qad v2):Qg (Qic v1 v2 v3) fun r=>True:=by
 unfold Qic
 refine T0 (QnG v1 v2.Ins v3 (h_v1) (h_v2.2.2.2.2.2.1)) (fun x_1 hv2=>?_)
 exact T3
theorem Qop (v1:Qm)(v2:Qw)(v3:Int)(v4:Int)(h_v1:QD v1)(h_v2:Qad v2):Qg (QeR v1 v2 v3 v4) fun r=>True:=by
 unfold QeR
 refine T0 (Qrg v1 v2 v3 (h_v1) (h_v2)) (fun x_1 hv2=>?_)
 exact T3
theorem Qrh (v1:Qm)(v2:Qw)(v3:Int)(h_v1:QD v1)(h_v2:Qad v2):Qg (Qid v1 v2 v3) fun r=>True:=by
 unfold Qid
 refine T0 (QnG v1 v2.Outs v3 (h_v1) (h_v2.2.2.2.2.2.2.1)) (fun x_1 hv2=>?_)
 exact T3
theorem Qoq (v1:Qm)(v2:Qw)(v3:Int)(v4:Int)(h_v1:QD v1)(h_v2:Qad v2):Qg (QeS v1 v2 v3 v4) fun r=>True:=by
 unfold QeS
 refine T0 (Qrh v1 v2 v3 (h_v1) (h_v2)) (fun x_1 hv2=>?_)
 exact T3
theorem QnH (v1:Qm)(v2:Int)(h_v1:QD v1):Qg (Qeo v1 v2) fun r=>True:=by
 unfold Qeo
 refine T0 (Qbw v1.Places v2 (h_v1.2.1)) (fun x_1 hv2=>?_)
 exact T3
theorem Ql5 (s1:(List Int))(v2:Int)(h_s1:(QO (fun _=>True)) s1):Qg (QcX s1 v2) fun r=>True:=by
 unfold QcX
 refine T0 (Qg.up (s1.length) (fun st=>st) (fun _=>True) (Q:=fun q=>True) rfl trivial (fun i2 st hi3 hn4 hj5=>?_)) (fun q6 hq7=>?_)
 ·obtain⟨x_1,hst⟩:∃y,y=st:=⟨_,rfl⟩
  subst hst
  replace hi3:x_1=(i2:Int):=hi3
  show Qg (Qcf s1 v2 x_1) _
  unfold Qcf
  refine T1 (fun hc8=>?_) (fun hc8=>?_)
  ·refine T0 (T4 (by omega) (by simp_all)) (fun e_9 hv10=>?_)
   refine T1 (fun hc11=>?_) (fun hc11=>?_)
   ·exact T2 (Qs trivial)
   exact T2 (QN ⟨(by simp_all),by subst hi3;exact QB (by simp_all) (h_s1).1,trivial⟩)
  exact T2 (Qs trivial)
 rcases q6 with q6 | q6
 ·show Qg (Qcg q6) _
  unfold Qcg
  exact T3
 show Qg (Qch) _
 unfold Qch
 exact T3
theorem Qkx (s1:(List Int))(v2:Int)(h_s1:(QO (fun _=>True)) s1):Qg (Qci s1 v2) fun r=>True:=by
 unfold Qci
 refine T0 (Ql5 s1 v2 (h_s1)) (fun x_1 hv2=>?_)
 exact T3
theorem QnI (v1:(List Int))(v2:Int)(v3:Int)(h_v1:(QO (fun _=>True)) v1)(hp0:0≤v2)(hp1:v2<v1.length):Qg (Qep v1 v2 v3) fun r=>True:=by
 unfold Qep
 refine T0 (T5 (by simp_all;omega)) (fun _ _=>?_)
 refine T0 (Qkx ((v1.drop 0).take (v2.toNat-0)) v3 (((h_v1).drop _).take _)) (fun x_1 hv2=>?_)
 exact T3
theorem QpG (v1:Qm)(v2:Int)(v3:Int)(v4:(List Int))(v5:Int)(v6:Int)(h_v1:QD v1)(h_v4:(QO (fun _=>True)) v4)(hp0:0≤v5)(hp1:v5<v4.length):Qg (Qgf v1 v2 v3 v4 v5 v6) fun r=>True:=by
 unfold Qgf
 refine T0 (QnH v1 v2 (h_v1)) (fun x_1 hv2=>?_)
 refine T1 (fun hc3=>?_) (fun hc3=>?_)
 ·exact T3
 refine T0 (QnI v4 v5 v2 (h_v4) (by omega) (by omega)) (fun x_4 hv5=>?_)
 refine T1 (fun hc6=>?_) (fun hc6=>?_)
 ·exact T3
 exact T3
theorem QoU (k1:Int)(place2:Int)(v3:Qm)(v4:(List Int))(h_v3:QD v3)(h_v4:(QO (fun _=>True)) v4)(hp0:0≤k1)(hp1:k1<v4.length):Qg (Qfn k1 place2 v3 v4) fun r=>True:=by
 unfold Qfn
 refine T0 (QpG v3 place2 3 v4 k1 5 (h_v3) (h_v4) (by omega) (by omega)) (fun x_1 hv2=>?_)
 exact T3
theorem QpH (l1:(List Int))(v2:Qm)(v3:(List Int))(h_l1:(QO (fun _=>True)) l1)(h_v2:QD v2)(h_v3:(QO (fun _=>True)) v3)(hp0:l1.length≤v3.length):Qg (Qgg l1 v2 v3) fun r=>True:=by
 unfold Qgg
 refine T0 (Qg.up (l1.length) (fun st=>st) (fun _=>True) (Q:=fun q=>True) rfl trivial (fun i2 st hi3 hn4 hj5=>?_)) (fun q6 hq7=>?_)
 ·obtain⟨x_1,hst⟩:∃y,y=st:=⟨_,rfl⟩
  subst hst
  replace hi3:x_1=(i2:Int):=hi3
  show Qg (Qeq l1 v2 v3 x_1) _
  unfold Qeq
  refine T1 (fun hc8=>?_) (fun hc8=>?_)
  ·refine T0 (T4 (by omega) (by simp_all)) (fun e_9 hv10=>?_)
   refine T0 (QoU x_1 e_9 v2 v3 (h_v2) (h_v3) (by omega) (by simp_all;omega)) (fun x_11 hv12=>?_)
   refine T1 (fun hc13=>?_) (fun hc13=>?_)
   ·exact T2 (Qs trivial)
   exact T2 (QN ⟨(by simp_all),by subst hi3;exact QB (by simp_all) (h_l1).1,trivial⟩)
  exact T2 (Qs trivial)
 rcases q6 with q6 | q6
 ·show Qg (Qer q6.1 q6.2) _
  unfold Qer
  exact T3
 show Qg (Qes) _
 unfold Qes
 exact T3
theorem Qqt (n1:Qm)(l2:(List Int))(h_n1:QD n1)(h_l2:(QO (fun _=>True)) l2):Qg (Qhd n1 l2) fun r=>True:=by
 unfold Qhd
 refine T0 (QpH l2 n1 l2 (h_l2) (h_n1) (h_l2) (by omega)) (fun x_1 hv2=>?_)
 exact T3
theorem Qqu (v1:Qm)(v2:Qw)(h_v1:QD v1)(h_v2:Qad v2):Qg (Qhe v1 v2) fun r=>True:=by
 unfold Qhe
 refine T0 (Qqt v1 v2.Cancel (h_v1) (h_v2.2.2.2.2.2.2.2.1)) (fun x_1 hv2=>?_)
 exact T3
theorem Qor (v1:Qm)(v2:Qw)(v3:Int)(h_v1:QD v1)(h_v2:Qad v2):Qg (QeT v1 v2 v3) fun r=>True:=by
 unfold QeT
 refine T0 (Qqu v1 v2 (h_v1) (h_v2)) (fun x_1 hv2=>?_)
 exact T3
theorem Qk1 (k1:Int)(l2:(List QP))(h_l2:(QO QiG) l2):Qg (Qdm k1 l2) fun r=>True:=by
 unfold Qdm
 exact T3
theorem Qr3 (t1:Qw)(h_t1:Qad t1):Qg (Qgv t1) fun r=>True:=by
 unfold Qgv
 refine T0 (P:=fun _=>True) ?_ (fun x_1 hv2=>?_)
 ·unfold QlZ
  refine T0 (Qk1 t1.Join t1.Ins (h_t1.2.2.2.2.2.1)) (fun x_3 hv4=>?_)
  refine T1 (fun hc5=>?_) (fun hc5=>?_)
  ·refine T0 (Qk1 t1.Split t1.Outs (h_t1.2.2.2.2.2.2.1)) (fun x_6 hv7=>?_)
   refine T1 (fun hc8=>?_) (fun hc8=>?_)
   ·refine T1 (fun hc9=>?_) (fun hc9=>?_)
    ·refine T1 (fun hc10=>?_) (fun hc10=>?_)
     ·exact T3
     exact T3
    exact T3
   exact T3
  exact T3
 unfold Qgh
 exact T3
theorem Qqv (v1:Qw)(h_v1:Qad v1):Qg (Qhf v1) fun r=>True:=by
 unfold Qhf
 refine T0 (Qr3 v1 (h_v1)) (fun x_1 hv2=>?_)
 exact T3
theorem QpI (v1:Qw)(v2:Int)(v3:Qm)(v4:Int)(v5:Int)(v6:Int)(v7:Int)(v8:Int)(v9:Int)(v10:Int)(v11:Int)(v12:Int)(v13:Int)(v14:Int)(v15:Int)(h_v1:Qad v1)(h_v3:QD v3)(hp0:0≤v4)(hp1:v4<v3.Tasks.length):Qg (Qed v1 v2 v3 v4 v5 v6 v7 v8 v9 v10 v11 v12 v13 v14 v15) fun r=>True:=by
 unfold Qed
 refine T0 (Qq8 v1 (h_v1)) (fun x_1 hv2=>?_)
 refine T1 (fun hc3=>?_) (fun hc3=>?_)
 ·exact T3
 refine T0 (Qra v3 v4 v1 (h_v3) (h_v1) (by omega) (by omega)) (fun x_4 hv5=>?_)
 refine T1 (fun hc6=>?_) (fun hc6=>?_)
 ·exact T3
 refine T0 (Qrb v6 v1 (h_v1)) (fun x_7 hv8=>?_)
 refine T1 (fun hc9=>?_) (fun hc9=>?_)
 ·exact T3
 refine T0 (Qqs v3 v1 v8 (h_v3) (h_v1)) (fun x_10 hv11=>?_)
 refine T1 (fun hc12=>?_) (fun hc12=>?_)
 ·exact T3
 refine T0 (Qrd v3 v4 (h_v3)) (fun x_13 hv14=>?_)
 refine T1 (fun hc15=>?_) (fun hc15=>?_)
 ·exact T3
 refine T0 (Qre v1 v6 (h_v1)) (fun x_16 hv17=>?_)
 refine T1 (fun hc18=>?_) (fun hc18=>?_)
 ·exact T3
 refine T0 (Qop v3 v1 v6 x_10.2 (h_v3) (h_v1)) (fun x_19 hv20=>?_)
 refine T1 (fun hc21=>?_) (fun hc21=>?_)
 ·exact T3
 refine T0 (Qoq v3 v1 v6 x_19.2 (h_v3) (h_v1)) (fun x_22 hv23=>?_)
 refine T1 (fun hc24=>?_) (fun hc24=>?_)
 ·exact T3
 refine T0 (Qor v3 v1 x_22.2 (h_v3) (h_v1)) (fun x_25 hv26=>?_)
 refine T1 (fun hc27=>?_) (fun hc27=>?_)
 ·exact T3
 refine T0 (Qqv v1 (h_v1)) (fun x_28 hv29=>?_)
 refine T1 (fun hc30=>?_) (fun hc30=>?_)
 ·exact T3
 exact T3
theorem QnJ (n1:Qm)(k2:Int)(h_n1:QD n1):Qg (QbV n1 k2) fun r=>True:=by
 unfold QbV
 refine T0 (QhC n1.Tasks k2 (h_n1.2.2.1)) (fun x_1 hv2=>?_)
 refine T1 (fun hc3=>?_) (fun hc3=>?_)
 ·exact T3
 refine T0 (Qk0 n1 (h_n1)) (fun x_4 hv5=>?_)
 refine T1 (fun hc6=>?_) (fun hc6=>?_)
 ·exact T3
 refine T0 (T4 (by simp_all) (by simp_all)) (fun e_7 hv8=>?_)
 refine T0 (T4 (by simp_all) (by simp_all)) (fun e_9 hv10=>?_)
 refine T0 (Qr1 0 n1 e_7 (h_n1) (((h_n1.2.2.1).2 e_7 hv8))) (fun x_11 hv12=>?_)
 refine T0 (Qpz 0 n1 e_7 (e_9.Vars.length:Int) (h_n1) (((h_n1.2.2.1).2 e_7 hv8))) (fun x_13 hv14=>?_)
 refine T0 (QpA 0 n1 e_7 (e_9.Vars.length:Int) (h_n1) (((h_n1.2.2.1).2 e_7 hv8))) (fun x_15 hv16=>?_)
 refine T0 (QpB 0 n1 e_7 (h_n1) (((h_n1.2.2.1).2 e_7 hv8))) (fun x_17 hv18=>?_)
 refine T0 (QpI e_7 1 n1 k2 5 (e_9.Vars.length:Int) 2 0 (-1) 2 1 (-1) (-1) (-1) 11 (((h_n1.2.2.1).2 e_7 hv8)) (h_n1) (by simp_all) (by simp_all)) (fun x_19 hv20=>?_)
 refine T1 (fun hc21=>?_) (fun hc21=>?_)
 ·exact T3
 exact T3
theorem Qr4 (k1:Int)(p2:Qw)(v3:Qm)(h_p2:Qad p2)(h_v3:QD v3):Qg (Qgw k1 p2 v3) fun r=>True:=by
 unfold Qgw
 refine T0 (QnJ v3 k1 (h_v3)) (fun x_1 hv2=>?_)
 exact T3
theorem Qmf (l1:(List Qw))(v2:Qm)(h_l1:(QO Qad) l1)(h_v2:QD v2):Qg (Qbx l1 v2) fun r=>True:=by
 unfold Qbx
 refine T0 (Qg.up (l1.length) (fun st=>st) (fun _=>True) (Q:=fun q=>True) rfl trivial (fun i2 st hi3 hn4 hj5=>?_)) (fun q6 hq7=>?_)
 ·obtain⟨x_1,hst⟩:∃y,y=st:=⟨_,rfl⟩
  subst hst
  replace hi3:x_1=(i2:Int):=hi3
  show Qg (Qa3 l1 v2 x_1) _
  unfold Qa3
  refine T1 (fun hc8=>?_) (fun hc8=>?_)
  ·refine T0 (T4 (by omega) (by simp_all)) (fun e_9 hv10=>?_)
   refine T0 (Qr4 x_1 e_9 v2 (((h_l1).2 e_9 hv10)) (h_v2)) (fun x_11 hv12=>?_)
   refine T1 (fun hc13=>?_) (fun hc13=>?_)
   ·exact T2 (Qs trivial)
   exact T2 (QN ⟨(by simp_all),by subst hi3;exact QB (by simp_all) (h_l1).1,trivial⟩)
  exact T2 (Qs trivial)
 rcases q6 with q6 | q6
 ·show Qg (Qcq q6.1 q6.2) _
  unfold Qcq
  exact T3
 show Qg (Qcr) _
 unfold Qcr
 exact T3
theorem Qs6 (n1:Qm)(h_n1:QD n1):Qg (QgE n1) fun r=>True:=by
 unfold QgE
 refine T0 (QrU n1 2 3 1 (h_n1)) (fun x_1 hv2=>?_)
 refine T1 (fun hc3=>?_) (fun hc3=>?_)
 ·exact T3
 refine T0 (Qk0 n1 (h_n1)) (fun x_4 hv5=>?_)
 refine T1 (fun hc6=>?_) (fun hc6=>?_)
 ·exact T3
 refine T0 (Ql2 n1.Places n1 (h_n1.2.1) (h_n1)) (fun x_7 hv8=>?_)
 refine T1 (fun hc9=>?_) (fun hc9=>?_)
 ·exact T3
 refine T0 (Qmf n1.Tasks n1 (h_n1.2.2.1) (h_n1)) (fun x_10 hv11=>?_)
 refine T1 (fun hc12=>?_) (fun hc12=>?_)
 ·exact T3
 exact T3
end Go.Proofs
noncomputable section
namespace Go.Proofs
open Go Go.RowKit Go.Vm
end Go.Proofs
noncomputable section
namespace Go.Proofs
open Go Go.RowKit Go.Vm
theorem Quq : ∀(n:Nat) (e:Qk) (d:Int),Qcs e→SizeOf.sizeOf e≤n→Qg (Qdt n e d) fun _=>True
 | 0,e,_,_,h=>absurd e.pos (by omega)
 | n+1,e,d,he,h=>by
  unfold Qdt QkB
  refine T1 (fun _=>T3) fun _=>?_
  refine T0 (Qg.up e.Kids.length (fun st=>st.2) (fun _=>True) (Q:=fun _=>True) rfl trivial (fun i st hi hn _=>?_)) (fun q _=>?_)
  ·obtain⟨a,x⟩:=st
   replace hi:x=(i:Int):=hi
   show Qg (QhV e (Qdt n) d a x) _
   unfold QhV
   refine T1 (fun hc=>?_) (fun hc=>T2 (Qs trivial))
   simp only [QZ]at hc
   refine T0 (T4 (by omega) (by omega)) fun k hk=>?_
   have:=QrQ hk
   refine T0 (Quq n k _ ((Qc9 he).2 k hk) (by omega)) fun y _=>?_
   refine T1 (fun _=>T2 (Qs trivial)) fun _=>T1 (fun _=>T2 (Qs trivial)) fun _=>?_
   exact T2 (QN ⟨by omega,by subst hi;exact QB (by omega) (Qc9 he).1,trivial⟩)
  rcases q with q | q
  ·exact T3
  exact T3
theorem QsB (e:Qk)(he:Qcs e):Qg (QgD e) fun _=>True:=by
 unfold QgD Qm1
 exact T0 (Quq _ e 60 he (QbJ _)) fun _ _=>T3
theorem QwB (n1:Qm)(h:QD n1)(q0:Int):Qg (Qg0 n1 q0) fun r=>r=true→q0≤400:=by
 unfold Qg0
 refine T0 (Qg.up n1.Tasks.length (fun st=>st.2) (fun _=>True) (Q:=fun _=>True) rfl trivial (fun i st hi hn _=>?_)) (fun q _=>?_)
 ·obtain⟨a,x⟩:=st
  replace hi:x=(i:Int):=hi
  show Qg (QgZ n1 a x) _
  unfold QgZ
  refine T1 (fun hc=>?_) (fun _=>T2 (Qs trivial))
  simp only [QZ]at hc
  refine T0 (T4 (by omega) (by omega)) fun e he=>?_
  have ke:=h.2.2.1.2 e he
  refine T1 (fun _=>T2 (Qs trivial)) fun _=>?_
  refine T0 (Qg.up e.Vars.length (fun st=>st) (fun _=>True) (Q:=fun _=>True) rfl trivial (fun i2 st hi2 hn2 _=>?_)) (fun q _=>?_)
  ·show Qg (QgT e st) _
   unfold QgT
   refine T1 (fun hc=>?_) (fun _=>T2 (Qs trivial))
   simp only [QZ]at hc
   refine T0 (T4 (by omega) (by omega)) fun s _=>?_
   exact T1 (fun _=>T2 (Qs trivial)) fun _=>T2 (QN ⟨by omega,by rw [hi2];exact QB (by omega) ke.2.1.1,trivial⟩)
  rcases q with q | q
  ·exact T2 (Qs trivial)
  show Qg (QgY e a x) _
  unfold QgY
  refine T0 (QsB e.Guard ke.2.2.1) fun g _=>?_
  refine T0 (Qg.up e.Ins.length (fun st=>st.2) (fun _=>True) (Q:=fun _=>True) rfl trivial (fun i2 st hi2 hn2 _=>?_)) (fun q _=>?_)
  ·obtain⟨b,y⟩:=st
   replace hi2:y=(i2:Int):=hi2
   show Qg (QgU e b y) _
   unfold QgU
   refine T1 (fun hc=>?_) (fun _=>T2 (Qs trivial))
   simp only [QZ]at hc
   refine T0 (T4 (by omega) (by omega)) fun s hs=>?_
   refine T0 (QsB s.Expr (ke.2.2.2.2.2.1.2 s hs).2) fun g _=>?_
   exact T2 (QN ⟨by omega,by subst hi2;exact QB (by omega) ke.2.2.2.2.2.1.1,trivial⟩)
  show Qg (QgX e a x q) _
  unfold QgX
  refine T0 (Qg.up e.Outs.length (fun st=>st.2) (fun _=>True) (Q:=fun _=>True) rfl trivial (fun i2 st hi2 hn2 _=>?_)) (fun q _=>?_)
  ·obtain⟨b,y⟩:=st
   replace hi2:y=(i2:Int):=hi2
   show Qg (QgV e b y) _
   unfold QgV
   refine T1 (fun hc=>?_) (fun _=>T2 (Qs trivial))
   simp only [QZ]at hc
   refine T0 (T4 (by omega) (by omega)) fun s hs=>?_
   refine T0 (QsB s.Expr (ke.2.2.2.2.2.2.1.2 s hs).2) fun g _=>?_
   exact T2 (QN ⟨by omega,by subst hi2;exact QB (by omega) ke.2.2.2.2.2.2.1.1,trivial⟩)
  show Qg (QgW a e x q) _
  unfold QgW
  exact T1 (fun _=>T2 (Qs trivial)) fun _=>T2 (QN ⟨by omega,by subst hi;exact QB (by omega) h.2.2.1.1,trivial⟩)
 rcases q with q | q
 ·exact T2 fun h=>by cases h
 exact T2 fun h=>by simpa using h
theorem QwC (n1:Qm)(h:QD n1):Qg (QiE n1) fun r=>r=true→n1.Colours.length≤40∧n1.Places.length≤70∧n1.Tasks.length≤70:=by
 unfold QiE
 refine T1 (fun _=>T2 fun h=>by cases h) fun hc=>?_
 simp only [Qe8,Qb7]at hc
 refine T6 (P:=fun _=>True) ?_ fun _ _ _=>by omega
 refine T0 (Qg.up n1.Colours.length (fun st=>st.2) (fun _=>True) (Q:=fun _=>True) rfl trivial (fun i st hi hn _=>?_)) (fun q _=>?_)
 ·obtain⟨a,x⟩:=st
  replace hi:x=(i:Int):=hi
  show Qg (QhY n1 a x) _
  unfold QhY
  refine T1 (fun hc=>?_) (fun _=>T2 (Qs trivial))
  simp only [QZ]at hc
  refine T0 (T4 (by omega) (by omega)).self fun e he=>?_
  obtain⟨he,hm⟩:=he
  refine T0 (P:=fun _=>True) ?_ fun y _=>?_
  ·unfold Qnu
   rw [he,Qr]
   exact T1 (fun _=>T3) fun _=>T3
  unfold QhX
  refine T1 (fun _=>T2 (Qs trivial)) fun _=>?_
  refine T0 (Qg.up e.Names.length (fun st=>st) (fun _=>True) (Q:=fun _=>True) rfl trivial (fun i2 st hi2 hn2 _=>?_)) (fun q _=>?_)
  ·show Qg (QhW n1 x st) _
   unfold QhW
   simp only [he,Qr]
   refine T1 (fun hc=>?_) (fun _=>T2 (Qs trivial))
   simp only [QZ]at hc
   refine T0 (T4 (by omega) (by omega)) fun s _=>?_
   refine T1 (fun _=>T2 (Qs trivial)) fun _=>?_
   exact T2 (QN ⟨by omega,by rw [hi2];exact QB (by omega) (h.1.2 e hm).2.2.2.2.1.1,trivial⟩)
  rcases q with q | q
  ·exact T2 (Qs trivial)
  exact T2 (QN ⟨by omega,by subst hi;exact QB (by omega) h.1.1,trivial⟩)
 rcases q with q | q
 ·exact T3
 show Qg (Qg1 n1 q) _
 unfold Qg1
 refine T0 (Qg.up n1.Places.length (fun st=>st.2) (fun _=>True) (Q:=fun _=>True) rfl trivial (fun i st hi hn _=>?_)) (fun q _=>?_)
 ·obtain⟨a,x⟩:=st
  replace hi:x=(i:Int):=hi
  show Qg (QhZ n1 a x) _
  unfold QhZ
  refine T1 (fun hc=>?_) (fun _=>T2 (Qs trivial))
  simp only [QZ]at hc
  refine T0 (T4 (by omega) (by omega)) fun e _=>?_
  refine T0 (T4 (by omega) (by omega)) fun e2 _=>?_
  exact T1 (fun _=>T2 (Qs trivial)) fun _=>T2 (QN ⟨by omega,by subst hi;exact QB (by omega) h.2.1.1,trivial⟩)
 rcases q with q | q
 ·exact T3
 exact(QwB n1 h q).mono fun _ _=>trivial
def MOk (n:Qm)(c:Nat)(m:List (List (Int×Int))):Prop:=m.length=n.Places.length∧∀b∈m,Rt b∧b.length≤c
theorem MOk.mono {n:Qm}{c c':Nat}{m:List (List (Int×Int))}(h:MOk n c m)(hc:c≤c'):MOk n c' m:=⟨h.1,fun b hb=>⟨(h.2 b hb).1,Qas (h.2 b hb).2 hc⟩⟩
structure Qtg (n:Qm):Prop where
 k:QD n
 pl:n.Places.length≤70
 tl:n.Tasks.length≤12
 tk:∀t∈n.Tasks,t.Vars.length≤16∧t.Ins.length≤16∧t.Outs.length≤16∧t.Cancel.length≤16
theorem Qvz (n1:Qm)(k2:Int)(h:QbV n1 k2=some 0):∃t,idx n1.Tasks k2=some t∧t.Vars.length≤16∧t.Ins.length≤16∧t.Outs.length≤16∧t.Cancel.length≤16:=by
 unfold QbV at h
 obtain⟨x5,_,h⟩:=Qd h
 rcases Qt h with⟨_,h⟩|⟨_,h⟩
 ·cases h
 obtain⟨x7,_,h⟩:=Qd h
 rcases Qt h with⟨c,h⟩|⟨_,h⟩
 ·simp only [Option.some.injEq]at h;rw [h]at c;cases c
 obtain⟨e9,he9,h⟩:=Qd h
 obtain⟨e10,he10,h⟩:=Qd h
 rw [he9]at he10;cases he10
 obtain⟨_,_,h⟩:=Qd h
 obtain⟨_,_,h⟩:=Qd h
 obtain⟨_,_,h⟩:=Qd h
 obtain⟨_,_,h⟩:=Qd h
 obtain⟨x15,hx,h⟩:=Qd h
 have bad:∀a b:Int,0<a→x15=(a,b)→False:=fun a b ha e=>by
  subst e
  simp only at h
  rcases Qt h with⟨c,h⟩|⟨_,h⟩
  ·simp only [beq_iff_eq]at c;omega
  simp only [Option.some.injEq]at h;omega
 unfold Qed at hx
 obtain⟨x20,_,hx⟩:=Qd hx
 rcases Qt hx with⟨_,hx⟩|⟨_,hx⟩
 ·exact(bad _ _ (by decide) (Option.some.inj hx).symm).elim
 obtain⟨x22,_,hx⟩:=Qd hx
 rcases Qt hx with⟨_,hx⟩|⟨_,hx⟩
 ·exact(bad _ _ (by decide) (Option.some.inj hx).symm).elim
 obtain⟨x24,h24,hx⟩:=Qd hx
 rcases Qt hx with⟨_,hx⟩|⟨c,hx⟩
 ·exact(bad _ _ (by decide) (Option.some.inj hx).symm).elim
 unfold Qfy at h24
 simp only [Option.some.injEq]at h24
 rw [←h24]at c
 simp only [Qjm,Qu,QZ,Qif]at c
 exact⟨e9,he9,by omega,by omega,by omega,by omega⟩
theorem Quk (l1:List Qw)(n1:Qm)(h:QD n1)(hl:QO Qad l1):Qg (Qbx l1 n1) fun r=>r.2=0→∀(j:Nat),j<l1.length→QbV n1 j=some 0:=by
 unfold Qbx
 refine T0 (Qg.up l1.length (fun st=>st) (fun st=>∀(j:Nat),(j:Int)<st→QbV n1 j=some 0) (Q:=fun q=>(∀a b,q=.inl (a,b)→b≠0)∧(q=.inr ()→∀(j:Nat),j<l1.length→QbV n1 j=some 0)) rfl (fun j hj=>by omega) (fun i st hi hn hJ=>?_)) (fun q hq=>?_)
 ·show Qg (Qa3 l1 n1 st) _
  unfold Qa3
  refine T1 (fun hc=>?_) (fun hc=>T2 (Qs ⟨fun a b h=>(by cases h),fun _ j hj=>by
   simp only [Qb7]at hc
   exact hJ j (by omega)⟩))
  simp only [QZ]at hc
  refine T0 (T4 (by omega) (by omega)) fun e he=>?_
  refine T0 (P:=fun x=>QbV n1 st=some x) ?_ fun x hx=>?_
  ·unfold Qgw
   exact T0 (QnJ n1 st h).self fun x hx=>T2 hx.1
  refine T1 (fun hc=>T2 (Qs ⟨fun a b h=>(by cases h;simpa using hc),fun h=>(by cases h)⟩)) fun hc=>?_
  simp only [bne_eq_false_iff_eq]at hc
  refine T2 (QN ⟨by omega,by rw [hi];exact QB (by omega) hl.1,fun j hj=>?_⟩)
  rw [hi,QB (show i<l1.length by omega) hl.1]at hj
  by_cases c:j=i
  ·subst c;rw [←hi,hx,hc]
  exact hJ j (by omega)
 rcases q with q | q
 ·exact T2 fun h=>absurd h (hq.1 q.1 q.2 rfl)
 exact T2 fun _=>hq.2 rfl
theorem QvA (n1:Qm)(h:QD n1){p:Qek}(hn:QgE n1=some (0,p)):∀t∈n1.Tasks,t.Vars.length≤16∧t.Ins.length≤16∧t.Outs.length≤16∧t.Cancel.length≤16:=by
 unfold QgE at hn
 obtain⟨x6,_,hn⟩:=Qd hn
 rcases Qt hn with⟨c,hn⟩|⟨_,hn⟩
 ·simp only [Option.some.injEq,Prod.mk.injEq]at hn;rw [hn.1]at c;cases c
 obtain⟨x8,_,hn⟩:=Qd hn
 rcases Qt hn with⟨c,hn⟩|⟨_,hn⟩
 ·simp only [Option.some.injEq,Prod.mk.injEq]at hn;rw [hn.1]at c;cases c
 obtain⟨x10,_,hn⟩:=Qd hn
 rcases Qt hn with⟨c,hn⟩|⟨_,hn⟩
 ·simp only [Option.some.injEq,Prod.mk.injEq]at hn;rw [hn.1]at c;cases c
 obtain⟨x12,h12,hn⟩:=Qd hn
 rcases Qt hn with⟨c,hn⟩|⟨c,hn⟩
 ·simp only [Option.some.injEq,Prod.mk.injEq]at hn;rw [hn.1]at c;cases c
 simp only [bne_eq_false_iff_eq]at c
 obtain⟨r,hr,hr2⟩:=Quk n1.Tasks n1 h h.2.2.1
 rw [h12]at hr;cases hr
 intro t ht
 obtain⟨j,hj,rfl⟩:=Qmn.1 ht
 obtain⟨t,h1,h2⟩:=Qvz n1 j (hr2 c j hj)
 rw [Q2,QH hj]at h1
 cases h1
 exact h2
end Go.Proofs
noncomputable section
namespace Go.Proofs
open Go Go.RowKit Go.Vm
theorem MOk.len {n:Qm}{c:Nat}{m:List (List (Int×Int))}(h:MOk n c m)(hn:Qtg n)(hc:c≤1000000):QO (QO fun _=>True) m:=
 ⟨by have:=h.1;have:=hn.pl;unfold maxLen;omega,fun b hb=>⟨by have:=(h.2 b hb).2;unfold maxLen;omega,fun _ _=>trivial⟩⟩
end Go.Proofs
noncomputable section
namespace Go.Proofs
open Go Go.RowKit Go.Vm
def InI (a:Int):Prop:=-9223372036854775808≤a∧a≤9223372036854775807
instance (a : Int):Decidable (InI a):=by unfold InI;infer_instance
end Go.Proofs
noncomputable section
namespace Go.Proofs
open Go Go.RowKit Go.Vm
end Go.Proofs
noncomputable section
namespace Go.Proofs
open Go Go.RowKit Go.Vm
theorem Qw9 (n1:Qm)(h:QD n1):Qg (QjK n1) fun r=>r=true→Qtg n1∧n1.Places.length≤12∧n1.Tasks.length≤8:=by
 unfold QjK
 refine T0 (QwC n1 h) fun x5 h5=>?_
 refine T1 (fun _=>T2 fun h=>by cases h) fun hc=>?_
 simp only [Qe8,Qjm,Qb7]at hc
 have h5:=h5 hc.1
 refine T0 (Qs6 n1 h).self fun x11 h11=>T2 fun he=>?_
 obtain⟨a,b⟩:=x11
 have:a=0:=by simpa using he
 subst this
 exact⟨⟨h,h5.2.1,by omega,QvA n1 h h11.1⟩,by omega,by omega⟩
def RowsIn (arcs:Int)(r:List (List Int)):Prop:=r.length≤16∧∀row∈r,row.length≤16∧∀k∈row,0≤k∧k<arcs
def chI (arcs:Int)(o:Option (List (List Int))):Bool:=match o with
 | some r=>decide (r.length≤16)&&r.all fun row=>decide (row.length≤16)&&row.all fun k=>decide (0≤k)&&decide (k<arcs)
 | none=>false
theorem QtQ {arcs:Int}{o:Option (List (List Int))}(h:chI arcs o=true):Qg o (RowsIn arcs):=by
 cases o with
 | none=>cases h
 | some r=>
  simp only [chI,Qu,QZ,QQ]at h
  exact T2 h
theorem Qws {arcs:Int}(h0:¬arcs<0)(h1:¬16<arcs):arcs=0∨arcs=1∨arcs=2∨arcs=3∨arcs=4∨arcs=5∨arcs=6∨arcs=7∨arcs=8∨arcs=9∨arcs=10∨arcs=11∨arcs=12∨arcs=13∨arcs=14∨arcs=15∨arcs=16:=by omega
set_option maxRecDepth 100000 in
theorem Qur (kind arcs:Int):Qg (QcP kind arcs) (RowsIn arcs):=by
 by_cases hg:((decide (arcs<0))||((decide (16<arcs))||((kind==3)&&(decide (4<arcs)))))=true
 ·unfold QcP
  rw [hg]
  exact T2 ⟨by simp,fun r h=>by cases h⟩
 simp only [Qcl,Qu,QZ,beq_iff_eq,not_or,not_and]at hg
 obtain⟨h0,h1,h2⟩:=hg
 by_cases e1:kind=1
 ·subst e1
  rcases Qws h0 h1 with rfl | rfl | rfl | rfl | rfl | rfl | rfl | rfl | rfl | rfl | rfl | rfl | rfl | rfl | rfl | rfl | rfl<;>exact QtQ (by kernel_rfl)
 by_cases e2:kind=2
 ·subst e2
  rcases Qws h0 h1 with rfl | rfl | rfl | rfl | rfl | rfl | rfl | rfl | rfl | rfl | rfl | rfl | rfl | rfl | rfl | rfl | rfl<;>exact QtQ (by kernel_rfl)
 by_cases e3:kind=3
 ·subst e3
  have h3:=h2 rfl
  have:arcs=0∨arcs=1∨arcs=2∨arcs=3∨arcs=4:=by omega
  rcases this with rfl | rfl | rfl | rfl | rfl<;>exact QtQ (by kernel_rfl)
 have f1:(kind==1)=false:=by simpa using e1
 have f2:(kind==2)=false:=by simpa using e2
 have f3:(kind==3)=false:=by simpa using e3
 unfold QcP Qdx
 rw [f1,f2,f3]
 exact T1 (fun _=>T2 ⟨by simp,fun r h=>by cases h⟩) fun _=>T2 ⟨by simp,fun r h=>by cases h⟩
def Eff (n:Qm)(b:Int)(e:List Int):Prop:=e.length=n.Places.length∧∀x∈e,-b≤x∧x≤b
theorem Eff.mono {n:Qm}{a b:Int}{e:List Int}(h:Eff n a e)(hb:a≤b):Eff n b e:=⟨h.1,fun x hx=>by have:=h.2 x hx;omega⟩
theorem QtR (l:List Int)(p k B:Int)(hB:0≤B∧B≤1000)(hk:-1≤k∧k≤1)(hl:∀x∈l,-B≤x∧x≤B):Qg (Qfr l p k) fun r=>r.length=l.length∧∀x∈r,-(B+1)≤x∧x≤B+1:=by
 unfold Qfr
 refine T1 (fun hc=>?_) fun _=>T2 ⟨rfl,fun x hx=>by have:=hl x hx;omega⟩
 simp only [Qu,QZ]at hc
 refine T0 (T4 hc.1 hc.2) fun e he=>?_
 have:=hl e he
 refine T0 (T4 hc.1 hc.2) fun _ _=>T2 ⟨by simp,fun x hx=>?_⟩
 rcases List.mem_or_eq_of_mem_set hx with hx | rfl
 ·have:=hl x hx;omega
 rw [Qba (by omega)];omega
theorem Qxa (n:Qm)(t:Qw)(row l:List Int)(hr:row.length≤16)(hk:∀k∈row,0≤k∧k<(t.Ins.length:Int))(hl:Eff n 0 l):Qg (Qy (fun st=>Qc3 row t st.1 st.2) (0,l)) (Eff n 16):=by
 refine Qg.up row.length (fun st=>st.1) (fun st=>Eff n st.1 st.2) rfl hl (fun i st hi hn hJ=>?_)
 obtain⟨x,l⟩:=st
 replace hi:x=(i:Int):=hi
 subst hi
 replace hJ:Eff n (i:Int) l:=hJ
 show Qg (Qc3 row t i l) _
 unfold Qc3
 refine T1 (fun hc=>?_) (fun hc=>T2 (Qs (hJ.mono (by omega))))
 simp only [QZ]at hc
 refine T0 (T4 (by omega) hc) fun k hk'=>?_
 have:=hk k hk'
 refine T0 (T4 this.1 this.2) fun a _=>?_
 refine T0 (QtR l a.Place (-1) i (by omega) (by omega) hJ.2) fun l' hl'=>?_
 refine T0 (T5 (by simpa using hl'.1)) fun _ _=>?_
 have hw:w64 ((i:Int)+1)=(i:Int)+1:=Qba (by omega)
 refine T2 (QN ⟨by omega,hw,hl'.1.trans hJ.1,?_⟩)
 show ∀x∈l',-(w64 ((i:Int)+1))≤x∧x≤w64 ((i:Int)+1)
 rw [hw];exact hl'.2
theorem Qxb (n:Qm)(t:Qw)(row l:List Int)(hr:row.length≤16)(hk:∀k∈row,0≤k∧k<(t.Outs.length:Int))(hl:Eff n 16 l):Qg (Qy (fun st=>Qc4 row t st.1 st.2) (0,l)) (Eff n 32):=by
 refine Qg.up row.length (fun st=>st.1) (fun st=>Eff n (16+st.1) st.2) rfl hl (fun i st hi hn hJ=>?_)
 obtain⟨x,l⟩:=st
 replace hi:x=(i:Int):=hi
 subst hi
 replace hJ:Eff n (16+(i:Int)) l:=hJ
 show Qg (Qc4 row t i l) _
 unfold Qc4
 refine T1 (fun hc=>?_) (fun hc=>T2 (Qs (hJ.mono (by omega))))
 simp only [QZ]at hc
 refine T0 (T4 (by omega) hc) fun k hk'=>?_
 have:=hk k hk'
 refine T0 (T4 this.1 this.2) fun a _=>?_
 refine T0 (QtR l a.Place 1 (16+i) (by omega) (by omega) hJ.2) fun l' hl'=>?_
 refine T0 (T5 (by simpa using hl'.1)) fun _ _=>?_
 have hw:w64 ((i:Int)+1)=(i:Int)+1:=Qba (by omega)
 refine T2 (QN ⟨by omega,hw,hl'.1.trans hJ.1,?_⟩)
 show ∀x∈l',-(16+w64 ((i:Int)+1))≤x∧x≤16+w64 ((i:Int)+1)
 rw [hw];intro x hx;have:=hl'.2 x hx;omega
def QhE (n:Qm)(m:Int)(l:List (List Int)):Prop:=(l.length:Int)≤m∧∀e∈l,Eff n 32 e
theorem QhE.mono {n:Qm}{a b:Int}{l:List (List Int)}(h:QhE n a l)(hb:a≤b):QhE n b l:=⟨by have:=h.1;omega,h.2⟩
theorem Qxc (n:Qm)(t:Qw)(ins:List Int)(outs l:List (List Int))(m:Int)(hp:n.Places.length≤12)(hi:ins.length≤16∧∀k∈ins,0≤k∧k<(t.Ins.length:Int))(ho:RowsIn (t.Outs.length:Int) outs)(hm:m≤100000)(hl:QhE n m l):Qg (Qy (fun st=>Qc5 outs n ins t st.1 st.2) (0,l)) (QhE n (m+16)):=by
 have ho1:=ho.1
 refine Qg.up outs.length (fun st=>st.1) (fun st=>QhE n (m+st.1) st.2) rfl (hl.mono (by show m≤m+0;omega)) (fun i st hi2 hn hJ=>?_)
 obtain⟨x,l⟩:=st
 replace hi2:x=(i:Int):=hi2
 subst hi2
 replace hJ:QhE n (m+(i:Int)) l:=hJ
 show Qg (Qc5 outs n ins t i l) _
 unfold Qc5
 refine T1 (fun hc=>?_) (fun hc=>T2 (Qs (hJ.mono (by omega))))
 simp only [QZ]at hc
 refine T0 (T4 (by omega) hc) fun row hrow=>?_
 have hrow:=ho.2 row hrow
 refine T0 (T5 (by simp;omega)) fun _ _=>?_
 refine T0 (Qxa n t ins _ hi.1 hi.2 ⟨by simp,fun x hx=>by have:=(List.mem_replicate.1 hx).2;omega⟩) fun l1 h1=>?_
 show Qg (QeJ row t l i l1) _
 unfold QeJ
 refine T0 (Qxb n t row l1 hrow.1 hrow.2 h1) fun l2 h2=>?_
 show Qg (QeI l i l2) _
 unfold QeI
 have:=hJ.1
 refine T0 (T5 (by simp;omega)) fun _ _=>?_
 have hw:w64 ((i:Int)+1)=(i:Int)+1:=Qba (by omega)
 refine T2 (QN ⟨by omega,hw,?_,fun e he=>?_⟩)
 ·show((l++[l2]).length:Int)≤m+w64 ((i:Int)+1)
  rw [hw,QfL,Qka];omega
 rcases QeG.1 he with he | he
 ·exact hJ.2 e he
 rw [Qmp.1 he];exact h2
theorem Qxd (n:Qm)(t:Qw)(ins l:List (List Int))(m:Int)(hp:n.Places.length≤12)(hi:RowsIn (t.Ins.length:Int) ins)(hm:m≤10000)(hl:QhE n m l):Qg (Qy (fun st=>Qc6 ins t n st.1 st.2) (0,l)) (QhE n (m+256)):=by
 have hi1:=hi.1
 refine Qg.up ins.length (fun st=>st.1) (fun st=>QhE n (m+16*st.1) st.2) rfl (hl.mono (by show m≤m+16*0;omega)) (fun i st hi2 hn hJ=>?_)
 obtain⟨x,l⟩:=st
 replace hi2:x=(i:Int):=hi2
 subst hi2
 replace hJ:QhE n (m+16*(i:Int)) l:=hJ
 show Qg (Qc6 ins t n i l) _
 unfold Qc6
 refine T1 (fun hc=>?_) (fun hc=>T2 (Qs (hJ.mono (by omega))))
 simp only [QZ]at hc
 refine T0 (T4 (by omega) hc) fun row hrow=>?_
 refine T0 (Qur _ _) fun outs ho=>?_
 refine T0 (Qxc n t row outs l _ hp (hi.2 row hrow) ho (by omega) hJ) fun l1 h1=>?_
 show Qg (QeK i l1) _
 unfold QeK
 have hw:w64 ((i:Int)+1)=(i:Int)+1:=Qba (by omega)
 refine T2 (QN ⟨by omega,hw,?_⟩)
 show QhE n (m+16*w64 ((i:Int)+1)) l1
 rw [hw];exact h1.mono (by omega)
theorem QtS (n:Qm)(hp:n.Places.length≤12)(ht:n.Tasks.length≤8):Qg (Qdc n) (QhE n 2048):=by
 unfold Qdc
 refine T0 (Qg.up n.Tasks.length (fun st=>st.1) (fun st=>QhE n (256*st.1) st.2) (Q:=QhE n 2048) rfl ⟨by simp,fun e he=>by cases he⟩ (fun i st hi2 hn hJ=>?_)) fun q hq=>T2 hq
 obtain⟨x,l⟩:=st
 replace hi2:x=(i:Int):=hi2
 subst hi2
 replace hJ:QhE n (256*(i:Int)) l:=hJ
 show Qg (QeM n i l) _
 unfold QeM
 refine T1 (fun hc=>?_) (fun hc=>T2 (Qs (hJ.mono (by omega))))
 simp only [QZ]at hc
 refine T0 (T4 (by omega) hc) fun t _=>?_
 refine T0 (Qur _ _) fun ins hins=>?_
 refine T0 (Qxd n t ins l _ hp hins (by omega) hJ) fun l1 h1=>?_
 show Qg (QeL i l1) _
 unfold QeL
 have hw:w64 ((i:Int)+1)=(i:Int)+1:=Qba (by omega)
 refine T2 (QN ⟨by omega,hw,?_⟩)
 show QhE n (256*w64 ((i:Int)+1)) l1
 rw [hw];exact h1.mono (by omega)
def Qiv (n:Qm)(k:Int):Bool:=decide (k<0)||decide ((n.Places.length:Int)≤k)
theorem QpJ {α:Type}{l:List α}(p:α→Bool){body:Int→Option (Int⊕(Int⊕Unit))}(hs:∀(i:Nat) x,i<l.length→l[i]? = some x→body (i:Int)=some (bif p x then .inr (.inl (i:Int))else .inl ((i+1:Nat):Int)))(hf:body (l.length:Int)=some (.inr (.inr ()))):
  Qy body 0=some ((Qcj (fun _ x=>p x) 0 l).elim (.inr ()) fun i=>.inl (i:Int)):=
 QsR (ρ:=Int⊕Unit) (fun i:Nat=>(i:Int)) (fun _ x=>p x) (fun i=>Sum.inl (i:Int)) (Sum.inr ()) hs hf rfl
theorem Qul {α:Type}{p:Nat→α→Bool}:∀{l:List α} {k n:Nat},Qcj p k l=some n→∀i x,k+i<n→l[i]? = some x→p (k+i) x=false:=by
 intro l
 induction l with
 | nil=>intro k n h;cases h
 | cons y l ih=>
  intro k n h i x hi hx
  rw [Qcj]at h
  cases hp:p k y with
  | true=>rw [hp]at h;cases h;omega
  | false=>
   rw [hp]at h
   cases i with
   | zero=>cases hx;exact hp
   | succ i=>
    have:=ih h i x (by omega) hx
    rwa [show k+1+i=k+(i+1) by omega]at this
theorem QtT {α:Type}(p:α→Bool)(l:List α):(decide (0≤(Qcj (fun _ x=>p x) 0 l).elim (-1:Int) fun i=>(i:Int)))=l.any p:=by
 cases h:Qcj (fun _ x=>p x) 0 l with
 | none=>
  have h2:=QrP h
  show decide ((0:Int)≤-1)=_
  rw [eq_comm,show decide ((0:Int)≤-1)=false from rfl,List.any_eq_false]
  intro x hx
  obtain⟨i,hi⟩:=QnM hx
  rw [h2 i x hi];simp
 | some i=>
  obtain⟨j,x,_,h3,h4⟩:=Qoo h
  show decide ((0:Int)≤(i:Int))=_
  rw [Qcn (by omega),eq_comm,QnL]
  exact⟨x,Qaj h3,h4⟩
theorem QvB (l:List Int)(n:Qm)(hl:l.length≤maxLen):QbA l n=some ((Qcj (fun _ x=>Qiv n x) 0 l).elim (-1) fun i=>(i:Int)):=by
 unfold QbA
 rw [QpJ (l:=l) (Qiv n) (fun i x hi hx=>by
  show Q7 l n i=_
  unfold Q7
  rw [Qcn (by omega),cond_true,Q2,hx,Qr,show Qdy x n=some (Qiv n x)from rfl,Qr,QB hi hl]
  cases Qiv n x<;>rfl) (by
  show Q7 l n l.length=_
  unfold Q7
  rw [Qcm (by omega),cond_false])]
 cases Qcj (fun _ x=>Qiv n x) 0 l<;>rfl
theorem Qwf (n:Qm)(l:List Int)(hl:l.length≤1000):Qg (Qbv l n) fun r=>r.length≤1000∧∀k∈r,Qiv n k=false:=by
 unfold Qbv
 rw [QvB l n (by unfold maxLen;omega),Qr]
 cases hs:Qcj (fun _ x=>Qiv n x) 0 l with
 | none=>
  refine T1 (fun _=>T2 ⟨hl,fun k hk=>?_⟩) fun hc=>by cases hc
  obtain⟨i,hi⟩:=QnM hk
  have:=QrP hs i k hi
  exact this
 | some i0=>
  obtain⟨i1,x0,e0,hx0,_⟩:=Qoo hs
  have hi0:i0<l.length:=by have:=(QE.1 hx0).1;omega
  refine T1 (fun hc=>by simp at hc) fun _=>?_
  show Qg ((Qy _ ((i0:Int),w64 ((i0:Int)+1),l)).bind _) _
  have hw:w64 ((i0:Int)+1)=(i0:Int)+1:=Qba (by omega)
  refine T0 (Qg.up (l.length-(i0+1)) (fun st=>st.2.1-((i0:Int)+1)) (fun st=>0≤st.1∧st.1<st.2.1∧st.2.2.length=l.length∧∀k∈st.2.2.take st.1.toNat,Qiv n k=false) (Q:=fun q:Int×List Int=>0≤q.1∧q.1≤(l.length:Int)∧q.2.length=l.length∧∀k∈q.2.take q.1.toNat,Qiv n k=false) (by show w64 ((i0:Int)+1)-((i0:Int)+1)=0;omega) ⟨by show(0:Int)≤i0;omega,by show(i0:Int)<w64 ((i0:Int)+1);omega,rfl,?_⟩ (fun i st hi hn hJ=>?_)) (fun q hq=>?_)
  ·show ∀k∈l.take (i0:Int).toNat,Qiv n k=false
   rw [Qmj]
   intro k hk
   obtain⟨i,hi⟩:=QnM hk
   have hlt:=(QE.1 hi).1
   rw [Qfb]at hlt
   rw [QbP,if_pos (by omega)]at hi
   exact Qul hs i k (by omega) hi
  ·obtain⟨a,j,l2⟩:=st
   replace hi:j-((i0:Int)+1)=i:=hi
   obtain⟨j1,j2,j3,j4⟩:0≤a∧a<j∧l2.length=l.length∧∀k∈l2.take a.toNat,Qiv n k=false:=hJ
   show Qg (Qa8 n a j l2) _
   unfold Qa8
   refine T1 (fun hc=>?_) (fun hc=>T2 (Qs ⟨j1,?_,j3,j4⟩))
   ·simp only [QZ]at hc
    have hj:j.toNat<l2.length:=by omega
    have hw2:w64 (j+1)=j+1:=Qba (by omega)
    have hw3:w64 (a+1)=a+1:=Qba (by omega)
    rw [Qvw (by omega) (by omega),Qr,show Qdy l2[j.toNat] n=some (Qiv n l2[j.toNat])from rfl,Qr]
    refine T1 (fun hc2=>?_) fun hc2=>?_
    ·have hc2:Qiv n l2[j.toNat]=false:=by simpa using hc2
     refine T0 (T4 (by omega) (by omega)) fun _ _=>?_
     refine T2 (QN ⟨by omega,by show w64 (j+1)-((i0:Int)+1)=_;omega,by show 0≤w64 (a+1);omega,by show w64 (a+1)<w64 (j+1);omega,by simpa using j3,?_⟩)
     show ∀k∈(l2.set a.toNat l2[j.toNat]).take (w64 (a+1)).toNat,Qiv n k=false
     rw [hw3,show(a+1).toNat=a.toNat+1 by omega,QpS,List.getElem?_set_self (by omega),List.take_set_of_le (QbJ _)]
     intro k hk
     rcases QeG.1 hk with hk | hk
     ·exact j4 k hk
     simp at hk;subst hk;exact hc2
    exact T2 (QN ⟨by omega,by show w64 (j+1)-((i0:Int)+1)=_;omega,j1,by show a<w64 (j+1);omega,j3,j4⟩)
   simp only [Qb7]at hc
   omega
  obtain⟨a,l2⟩:=q
  obtain⟨q1,q2,q3,q4⟩:0≤a∧a≤(l.length:Int)∧l2.length=l.length∧∀k∈l2.take a.toNat,Qiv n k=false:=hq
  show Qg (Qa9 a l2) _
  unfold Qa9
  refine T0 (T5 (by simp;omega)) fun _ _=>?_
  refine T0 (T5 (by simp;omega)) fun _ _=>T2 ?_
  rw [Qrm (by simp;omega),List.take_take,Nat.min_self]
  exact⟨by simp;omega,q4⟩
theorem QvC {l:List Int}{x:Int}(h:x∈Qej l):x∈l:=by
 unfold Qej Lib.compact Lib.compactUpTo at h
 rw [Qv]at h
 obtain⟨j,hj,rfl⟩:=h
 have hj:=QiK.1 (Qmm.1 hj).1
 rw [getElem!_pos l.toArray j (by simpa using hj)]
 simp
theorem QtU (n:Qm)(h:Qtg n)(ht:n.Tasks.length≤8):Qg (Qdf n) fun r=>r.length≤1000∧∀k∈r,0≤k∧k<(n.Places.length:Int):=by
 unfold Qdf
 refine T0 (Qg.up n.Tasks.length (fun st=>st.1) (fun st=>(st.2.length:Int)≤16*st.1) (Q:=fun l:List Int=>l.length≤128) rfl (by simp) (fun i st hi2 hn hJ=>?_)) fun l hl=>?_
 ·obtain⟨x,l⟩:=st
  replace hi2:x=(i:Int):=hi2
  subst hi2
  replace hJ:(l.length:Int)≤16*(i:Int):=hJ
  show Qg (QeN n i l) _
  unfold QeN
  refine T1 (fun hc=>?_) (fun hc=>T2 (Qs (by omega)))
  simp only [QZ]at hc
  refine T0 (T4 (by omega) hc) fun t htm=>?_
  have:=(h.tk t htm).2.2.2
  refine T0 (T5 (by simp;omega)) fun _ _=>?_
  have hw:w64 ((i:Int)+1)=(i:Int)+1:=Qba (by omega)
  refine T2 (QN ⟨by omega,hw,?_⟩)
  show((l++t.Cancel).length:Int)≤16*w64 ((i:Int)+1)
  rw [hw,QfL];omega
 show Qg (QeO n l) _
 unfold QeO Qfu QdW
 refine T0 (Qwf n l (by omega)) fun l1 h1=>?_
 rw [Qtf (by omega),Qr,Qr]
 refine T0 (T5 (by simp [Qpf])) fun _ _=>?_
 rw [Qtf (by rw [Qpf];omega),Qr,Qr]
 refine T2 ⟨?_,fun k hk=>?_⟩
 ·refine Qas ?_ h1.1
  rw [←Qpf l1]
  unfold Qej Lib.compact Lib.compactUpTo
  rw [Qjp]
  refine Qas (List.length_filter_le _ _) ?_
  simp
 have:=h1.2 k ((Qob l1).mem_iff.1 (QvC hk))
 unfold Qiv at this
 simp at this
 omega
end Go.Proofs
noncomputable section
namespace Go.Proofs
open Go Go.RowKit Go.Vm
theorem Qr5 {τ ρ π:Type}{body:τ→π→Option (τ⊕ρ)}{s:τ}{p q:π}{o:τ⊕ρ}(h1:Qb2 body s [p,q]=some o)(h2:Qb2 body s [q,p]=some o):Qdw body s [p,q]=some o:=by
 refine QhJ.2 ⟨fun l hl=>?_,h1⟩
 have hlen:=hl.length_eq
 match l,hl,hlen with
 | [a,b],hl,_=>
  have ha:a∈[p,q]:=hl.mem_iff.1 Q8
  simp only [Q3,List.not_mem_nil,or_false]at ha
  rcases ha with rfl | rfl
  ·have:=List.perm_singleton.1 ((List.perm_cons a).1 hl)
   rw [this]
  have:=List.perm_singleton.1 ((List.perm_cons a).1 (hl.trans (List.Perm.swap a p [])))
  rw [this,h2,h1]
def Qna : Qm:=(Qkj).getD (Qm.mk [] [] [] 0 0)
def QpK : List (Int×List Int):=[(0,[-1,1,0]),(2,[0,0,1])]
theorem Qu2 : Qbt 3 QpK 1=some [1,1,0]:=by
 unfold Qbt
 rw [show QpK=[(0,[-1,1,0]),(2,[0,0,1])]from rfl,Qr5 (o:=.inl 1) (by kernel_rfl) (by kernel_rfl),Qr]
 show Qbq 3 1 _ 1=_
 unfold Qbq
 rw [show chk (decide ((0:Int)≤3)&&decide ((3:Int)≤3)&&decide ((3:Int)≤4294967296))=some () by kernel_rfl,Qr,show idx (List.replicate (3:Int).toNat (0:Int)) 1=some 0 by kernel_rfl,Qr,
  Qr5 (o:=.inl [1,1,0]) (by kernel_rfl) (by kernel_rfl)]
 rfl
theorem Qum : Qds Qna=some ([[1,1,0]],0):=by
 have h1:Qds Qna=QdZ Qna QpK:=by kernel_rfl
 rw [h1]
 unfold QdZ
 have b0:Qah Qna QpK 0 []=some (.inl (1,[])):=by kernel_rfl
 have b1:Qah Qna QpK 1 []=some (.inl (2,[[1,1,0]])):=by
  unfold Qah
  rw [show decide ((1:Int)<(Qna.Places.length:Int))=true by kernel_rfl,cond_true,show(Qb1 QpK 1).isSome=false by kernel_rfl,cond_false,show(Qna.Places.length:Int)=3 by kernel_rfl,Qu2]
  kernel_rfl
 have b2:Qah Qna QpK 2 [[1,1,0]]=some (.inl (3,[[1,1,0]])):=by kernel_rfl
 have b3:Qah Qna QpK 3 [[1,1,0]]=some (.inr [[1,1,0]]):=by kernel_rfl
 rw [Qdp,b0];simp only [Qr]
 rw [Qdp,b1];simp only [Qr]
 rw [Qdp,b2];simp only [Qr]
 rw [Qdp,b3]
 rfl
theorem Qu3 : QiO=some true:=by
 unfold QiO
 rw [show Qkj=some Qna by kernel_rfl,Qr,Qum,Qr]
 kernel_rfl
end Go.Proofs
namespace Go.Vm
abbrev Vec : Type:=Nat→Int
def dexp : (List Nat→Int)→Vec→List Nat→Int
 | _,_,[]=>0
 | f,v,c::cs=>v c*f cs-dexp (fun l=>f (c::l)) v cs
def det : List Vec→List Nat→Int
 | [],[]=>1
 | [],_::_=>0
 | v::vs,cs=>dexp (det vs) v cs
theorem QtV (v:Vec):∀(cs:List Nat) (f:List Nat→Int),dexp (fun l=>-f l) v cs=-dexp f v cs
 | [],f=>rfl
 | c::cs,f=>by
  rw [dexp,dexp,QtV v cs (fun l=>f (c::l)),Int.mul_neg];omega
theorem Qu4 (v:Vec){cs:List Nat}{f g:List Nat→Int}(h:∀l,f l=g l):dexp f v cs=dexp g v cs:=by
 rw [show f=g from funext h]
def Qee (f:List Nat→Int):Prop:=∀p a b s,f (p++a::b::s)=-f (p++b::a::s)
theorem Qee.cons {f:List Nat→Int}(h:Qee f)(c:Nat):Qee fun l=>f (c::l):=fun p a b s=>h (c::p) a b s
theorem Qee.app {f:List Nat→Int}(h:Qee f)(q:List Nat):Qee fun l=>f (q++l):=fun p a b s=>by
 have:=h (q++p) a b s
 simpa [Qe9] using this
theorem Qee.dexp (v:Vec):∀(p:List Nat) {f:List Nat→Int},Qee f→∀a b s,dexp f v (p++a::b::s)=-dexp f v (p++b::a::s)
 | [],f,h,a,b,s=>by
  show v a*f (b::s)-(v b*f (a::s)-Vm.dexp (fun l=>f (a::b::l)) v s)=-(v b*f (a::s)-(v a*f (b::s)-Vm.dexp (fun l=>f (b::a::l)) v s))
  rw [Qu4 v (f:=fun l=>f (a::b::l)) (g:=fun l=>-f (b::a::l)) fun l=>h [] a b l,QtV v s (fun l=>f (b::a::l))]
  omega
 | c::p,f,h,a,b,s=>by
  show v c*f (p++a::b::s)-Vm.dexp (fun l=>f (c::l)) v (p++a::b::s)=-(v c*f (p++b::a::s)-Vm.dexp (fun l=>f (c::l)) v (p++b::a::s))
  rw [h p a b s,Qee.dexp v p (h.cons c) a b s,Int.mul_neg]
  omega
theorem Qos : ∀vs:List Vec,Qee (det vs)
 | []=>fun p a b s=>by cases p<;>rfl
 | v::vs=>fun p a b s=>Qee.dexp v p (Qos vs) a b s
def sg : List Nat→Int
 | []=>1
 | _::p=>-sg p
theorem QvD (p:List Nat):sg p=1∨sg p=-1:=by
 induction p with
 | nil=>exact .inl rfl
 | cons _ p ih=>rcases ih with h | h<;>simp [sg,h]
theorem Qee.front : ∀(p:List Nat) {f:List Nat→Int},Qee f→∀a s,f (p++a::s)=sg p*f (a::(p++s))
 | [],f,h,a,s=>by simp [sg]
 | c::p,f,h,a,s=>by
  have h1:=Qee.front p (h.cons c) a s
  have h2:=h [] c a (p++s)
  show f (c::(p++a::s))=-sg p*f (a::c::(p++s))
  rw [h1]
  show sg p*f (c::a::(p++s))=_
  rw [show f (c::a::(p++s))=-f (a::c::(p++s))from h2]
  simp [Int.mul_neg,Int.neg_mul]
theorem Qee.twice {f:List Nat→Int}(h:Qee f)(a:Nat){l:List Nat}(hl:a∈l):f (a::l)=0:=by
 obtain⟨q,s,rfl⟩:=QpO hl
 have h1:=Qee.front q (h.cons a) a s
 have h2:f (a::a::(q++s))=-f (a::a::(q++s)):=h [] a a (q++s)
 have h3:f (a::a::(q++s))=0:=by omega
 show f (a::(q++a::s))=0
 rw [h1]
 show sg q*f (a::a::(q++s))=0
 rw [h3,QfI]
theorem Qee.at {f:List Nat→Int}(h:Qee f)(p s:List Nat){a:Nat}(ha:a∈p++s):f (p++a::s)=0:=by
 rw [Qee.front p h a s,h.twice a ha,QfI]
inductive Q0 (vs:List Vec):Vec→Prop where
 | zero:Q0 vs (fun _=>0)
 | mem (v:Vec):v∈vs→Q0 vs v
 | lin (a b:Int) (x y:Vec):Q0 vs x→Q0 vs y→Q0 vs (fun j=>a*x j+b*y j)
theorem Q0.smul {vs:List Vec}{x:Vec}(h:Q0 vs x)(a:Int):Q0 vs fun j=>a*x j:=by
 have:=Q0.lin a 0 x x h h
 simpa using this
theorem Q0.sub {vs:List Vec}{x y:Vec}(a b:Int)(hx:Q0 vs x)(hy:Q0 vs y):Q0 vs fun j=>a*x j-b*y j:=by
 have:=Q0.lin a (-b) x y hx hy
 have e:(fun j=>a*x j-b*y j)=fun j=>a*x j+-b*y j:=by
  funext j;rw [Int.neg_mul];rfl
 rw [e];exact this
theorem Q0.mono {vs ws:List Vec}(h:∀v∈vs,Q0 ws v){x:Vec}(hx:Q0 vs x):Q0 ws x:=by
 induction hx with
 | zero=>exact .zero
 | mem v hv=>exact h v hv
 | lin a b x y _ _ h1 h2=>exact .lin a b x y h1 h2
theorem Q0.dexp {vs:List Vec}(v:Vec):∀(cs:List Nat) (f:Nat→List Nat→Int),(∀l,Q0 vs fun j=>f j l)→Q0 vs fun j=>dexp (f j) v cs
 | [],f,h=>.zero
 | c::cs,f,h=>by
  have h1:=Q0.dexp v cs (fun j l=>f j (c::l)) fun l=>h (c::l)
  have:=Q0.sub (v c) 1 (h cs) h1
  simpa [Vm.dexp] using this
theorem Q0.det : ∀(vs:List Vec) (cs:List Nat),Q0 vs fun j=>det vs (j::cs)
 | [],cs=>by
  show Q0 [] fun _=>0
  exact .zero
 | v::vs,cs=>by
  have up:∀{x},Q0 vs x→Q0 (v::vs) x:=fun h=>h.mono fun u hu=>.mem u (Qar _ hu)
  have h1:Q0 (v::vs) fun j=>Vm.dexp (fun l=>Vm.det vs (j::l)) v cs:=up (Q0.dexp v cs (fun j l=>Vm.det vs (j::l)) fun l=>Q0.det vs l)
  have:=Q0.sub (Vm.det vs cs) 1 (Q0.mem v (Q8 (l:=vs))) h1
  have e:(fun j=>Vm.det (v::vs) (j::cs))=fun j=>Vm.det vs cs*v j-1*Vm.dexp (fun l=>Vm.det vs (j::l)) v cs:=by
   funext j
   show v j*Vm.det vs cs-Vm.dexp (fun l=>Vm.det vs (j::l)) v cs=_
   rw [QiJ (v j),Int.one_mul]
  rw [e];exact this
def fac : Nat→Nat
 | 0=>1
 | n+1=>(n+1)*fac n
theorem Qus {m B:Nat}{v:Vec}(hv:∀j,(v j).natAbs≤m):∀(cs:List Nat) (f:List Nat→Int),(∀l,l.length+1=cs.length→(f l).natAbs≤B)→(dexp f v cs).natAbs≤cs.length*(m*B)
 | [],f,h=>by simp [dexp]
 | c::cs,f,h=>by
  have h1:=Qus hv cs (fun l=>f (c::l)) (fun l hl=>h (c::l) (by simp;omega))
  have h2:=h cs rfl
  have h3:(v c*f cs).natAbs≤m*B:=by rw [QgK];exact QnQ (hv c) h2
  rw [dexp,Qfa,QbI,Nat.one_mul]
  have:=Int.natAbs_sub_le (v c*f cs) (dexp (fun l=>f (c::l)) v cs)
  omega
theorem QpL {m:Nat}:∀(vs:List Vec) (cs:List Nat),(∀v∈vs,∀j,(v j).natAbs≤m)→cs.length=vs.length→(det vs cs).natAbs≤fac vs.length*m ^ vs.length
 | [],[],_,_=>by simp [det,fac]
 | [],_::_,_,h=>by simp at h
 | v::vs,cs,hv,hl=>by
  have h1:=Qus (B:=fac vs.length*m ^ vs.length) (hv v Q8) cs (det vs) (fun l h=>QpL vs l (fun u hu=>hv u (Qar _ hu)) (by simp at hl;omega))
  rw [det]
  refine Qas h1 ?_
  rw [hl,Qfa,fac,Nat.pow_succ]
  apply Nat.le_of_eq
  simp [Nat.mul_assoc,Qkd,Nat.mul_left_comm]
abbrev Piv : Type:=List (Nat×Vec)
structure Red (rs:Piv):Prop where
 nd:(rs.map Prod.fst).Nodup
 ne:∀q∈rs,q.2 q.1≠0
 zr:∀q∈rs,∀p∈rs,p.1≠q.1→q.2 p.1=0
def comb (c:Nat→Int)(rs:Piv):Vec:=fun j=>(rs.map fun q=>c q.1*q.2 j).sum
theorem QtW (a b:Int)(c d:Nat→Int)(rs:Piv)(j:Nat):comb (fun p=>a*c p+b*d p) rs j=a*comb c rs j+b*comb d rs j:=by
 unfold comb
 induction rs with
 | nil=>simp
 | cons q rs ih=>
  simp only [Qaw,List.sum_cons,ih]
  rw [Int.add_mul,Int.mul_add,Int.mul_add,Qeh,Qeh]
  omega
theorem Qwg {rs:Piv}(p:Nat):∀(hn:(rs.map Prod.fst).Nodup) (r:Vec),(p,r)∈rs→∀j,comb (fun k=>if k=p then 1 else 0) rs j=r j:=by
 induction rs with
 | nil=>intro _ r h;cases h
 | cons q rs ih=>
  intro hn r h j
  rw [Qaw,QbW]at hn
  unfold comb at ih ⊢
  rw [Qaw,List.sum_cons]
  rcases Q3.1 h with e | h
  ·subst e
   have:(rs.map fun q=>(if q.1=p then(1:Int)else 0)*q.2 j).sum=0:=by
    have key:∀l:Piv,(∀q∈l,q.1≠p)→(l.map fun q=>(if q.1=p then(1:Int)else 0)*q.2 j).sum=0:=by
     intro l
     induction l with
     | nil=>intro _;rfl
     | cons u l ih2=>
      intro hl
      rw [Qaw,List.sum_cons,if_neg (hl u Q8),ih2 fun x hx=>hl x (Qar _ hx)]
      simp
    exact key rs fun u hu e=>hn.1 (Qv.2 ⟨u,hu,e⟩)
   rw [this];simp
  have hne:q.1≠p:=fun e=>hn.1 (Qv.2 ⟨(p,r),h,e.symm⟩)
  have i2:=ih hn.2 r h j
  rw [i2]
  show(if q.1=p then(1:Int)else 0)*q.2 j+r j=r j
  rw [if_neg hne];simp
theorem Q0.comb {rs:Piv}(hn:(rs.map Prod.fst).Nodup){x:Vec}(h:Q0 (rs.map Prod.snd) x):∃c:Nat→Int,∀j,x j=comb c rs j:=by
 induction h with
 | zero=>
  refine⟨fun _=>0,fun j=>?_⟩
  have:=QtW 0 0 (fun _=>0) (fun _=>0) rs j
  simpa using this.symm
 | mem v hv=>
  obtain⟨q,hq,rfl⟩:=Qv.1 hv
  exact⟨fun k=>if k=q.1 then 1 else 0,fun j=>(Qwg q.1 hn q.2 hq j).symm⟩
 | lin a b x y _ _ h1 h2=>
  obtain⟨c,hc⟩:=h1
  obtain⟨d,hd⟩:=h2
  exact⟨fun p=>a*c p+b*d p,fun j=>by show a*x j+b*y j=_;rw [QtW,hc,hd]⟩
theorem Qut {rs:Piv}(h:Red rs)(c:Nat→Int){q:Nat×Vec}(hq:q∈rs):comb c rs q.1=c q.1*q.2 q.1:=by
 have key:∀l:Piv,(l.map Prod.fst).Nodup→(∀u∈l,u∈rs)→(l.map fun u=>c u.1*u.2 q.1).sum=if q.1∈l.map Prod.fst then c q.1*q.2 q.1 else 0:=by
  intro l
  induction l with
  | nil=>intro _ _;rfl
  | cons u l ih=>
   intro hn hm
   rw [Qaw,QbW]at hn
   rw [Qaw,List.sum_cons,ih hn.2 fun x hx=>hm x (Qar _ hx)]
   by_cases e:u.1=q.1
   ·have hu:u=q:=by
     have:=hm u Q8
     have nd:=h.nd
     rw [List.nodup_iff_pairwise_ne]at nd
     clear ih
     have inj:∀(l:Piv),(l.map Prod.fst).Nodup→∀a∈l,∀b∈l,a.1=b.1→a=b:=by
      intro l
      induction l with
      | nil=>intro _ a ha;cases ha
      | cons z l ih3=>
       intro hn a ha b hb e
       rw [Qaw,QbW]at hn
       rcases Q3.1 ha with ha | ha
       ·rcases Q3.1 hb with hb | hb
        ·rw [ha,hb]
        exact absurd (Qv.2 ⟨b,hb,by rw [←e,ha]⟩) hn.1
       rcases Q3.1 hb with hb | hb
       ·exact absurd (Qv.2 ⟨a,ha,by rw [e,hb]⟩) hn.1
       exact ih3 hn.2 a ha b hb e
     exact inj rs h.nd u this q hq e
    subst hu
    rw [if_neg hn.1,if_pos (by simp)];omega
   have hz:u.2 q.1=0:=h.zr u (hm u Q8) q hq (fun e2=>e e2.symm)
   rw [hz,QfI,Int.zero_add]
   by_cases hi:q.1∈l.map Prod.fst
   ·rw [if_pos hi,if_pos (by simp only [Qaw];exact Qar _ hi)]
   rw [if_neg hi,if_neg (by simp only [Qaw];intro hh;exact(Q3.1 hh).elim (fun hh=>e hh.symm) hi)]
 have:=key rs h.nd fun u hu=>hu
 rw [if_pos (Qv.2 ⟨q,hq,rfl⟩)]at this
 exact this
theorem Red.inj {rs:Piv}(h:Red rs){x:Vec}(hx:Q0 (rs.map Prod.snd) x)(hz:∀q∈rs,x q.1=0):∀j,x j=0:=by
 obtain⟨c,hc⟩:=hx.comb h.nd
 have h0:∀q∈rs,c q.1=0:=fun q hq=>by
  have h1:=hz q hq
  rw [hc,Qut h c hq]at h1
  rcases QhG.1 h1 with h2 | h2
  ·exact h2
  exact absurd h2 (h.ne q hq)
 intro j
 rw [hc]
 unfold comb
 have key:∀l:Piv,(∀q∈l,c q.1=0)→(l.map fun q=>c q.1*q.2 j).sum=0:=by
  intro l
  induction l with
  | nil=>intro _;rfl
  | cons u l ih=>intro hl;rw [Qaw,List.sum_cons,hl u Q8,ih fun x hx=>hl x (Qar _ hx)];simp
 exact key rs h0
def Qbg (vs:List Vec)(x:Vec):Prop:=∃a:Int,a≠0∧Q0 vs fun j=>a*x j
theorem Red.line {rs:Piv}(h:Red rs){x:Vec}(hx:Qbg (rs.map Prod.snd) x){q:Nat×Vec}(hq:q∈rs)(hz:∀p∈rs,p.1≠q.1→x p.1=0)(j:Nat):q.2 q.1*x j=x q.1*q.2 j:=by
 obtain⟨a,ha,hs⟩:=hx
 have h1:=Q0.sub (q.2 q.1) (a*x q.1) hs (Q0.mem q.2 (Qv.2 ⟨q,hq,rfl⟩))
 have h2:=h.inj h1 (fun p hp=>by
  by_cases e:p.1=q.1
  ·rw [e,QiJ (a*x q.1)];simp
  rw [hz p hp e,h.zr q hq p hp e];simp) j
 have h3:a*(q.2 q.1*x j)=a*(x q.1*q.2 j):=by
  have e1:q.2 q.1*(a*x j)=a*(q.2 q.1*x j):=by rw [Qjn]
  have e2:a*x q.1*q.2 j=a*(x q.1*q.2 j):=Qeh _ _ _
  rw [e1,e2]at h2
  omega
 exact Int.eq_of_mul_eq_mul_left ha h3
theorem Qbg.of {vs:List Vec}{x:Vec}(h:Q0 vs x):Qbg vs x:=⟨1,by decide,by simpa using h⟩
theorem Qbg.zero {vs:List Vec}:Qbg vs fun _=>0:=.of .zero
theorem Qbg.lin {vs:List Vec}{x y:Vec}(a b:Int)(hx:Qbg vs x)(hy:Qbg vs y):Qbg vs fun j=>a*x j+b*y j:=by
 obtain⟨c,hc,h1⟩:=hx
 obtain⟨d,hd,h2⟩:=hy
 refine⟨c*d,Int.mul_ne_zero hc hd,?_⟩
 have:=Q0.lin (d*a) (c*b) _ _ h1 h2
 have e:(fun j=>c*d*(a*x j+b*y j))=fun j=>d*a*(c*x j)+c*b*(d*y j):=by
  funext j
  rw [Int.mul_add]
  congr 1
  ·rw [Qeh,Qeh,Qjn c d,Qjn c a]
  rw [Qeh,Qeh,Qjn d b]
 rw [e];exact this
theorem Qbg.trans {vs ws:List Vec}{x:Vec}(h:Q0 vs x)(hv:∀v∈vs,Qbg ws v):Qbg ws x:=by
 induction h with
 | zero=>exact .zero
 | mem v h=>exact hv v h
 | lin a b x y _ _ h1 h2=>exact h1.lin a b h2
theorem Qbg.div {vs:List Vec}{x:Vec}{a:Int}(ha:a≠0)(h:Qbg vs fun j=>a*x j):Qbg vs x:=by
 obtain⟨c,hc,h1⟩:=h
 refine⟨c*a,Int.mul_ne_zero hc ha,?_⟩
 have e:(fun j=>c*a*x j)=fun j=>c*(a*x j):=by funext j;exact Qeh _ _ _
 rw [e];exact h1
theorem Qbg.transQ {vs ws:List Vec}{x:Vec}(h:Qbg vs x)(hv:∀v∈vs,Qbg ws v):Qbg ws x:=by
 obtain⟨c,hc,h1⟩:=h
 exact Qbg.div hc (Qbg.trans h1 hv)
def QjO (x:Vec):Prop:=∀d:Nat,(∀j,d ∣ (x j).natAbs)→d=1
theorem QjO.fits {r R:Vec}{x y:Int}(hp:QjO r)(hx:x≠0)(hy:y≠0)(h:∀j,x*r j=y*R j):∃t:Int,t≠0∧x=y*t∧∀j,R j=t*r j:=by
 have hA:y.natAbs ∣ x.natAbs:=by
  have hy0:0<y.natAbs:=Qmi.2 hy
  have hg:0<Nat.gcd y.natAbs x.natAbs:=Qrn _ hy0
  have cop:=Nat.coprime_div_gcd_div_gcd hg
  obtain⟨y',ey⟩:=Nat.gcd_dvd_left y.natAbs x.natAbs
  obtain⟨x',ex⟩:=Nat.gcd_dvd_right y.natAbs x.natAbs
  generalize Nat.gcd y.natAbs x.natAbs=g at *
  have dy:y.natAbs / g=y':=by rw [ey];exact QpT _ hg
  have dx:x.natAbs / g=x':=by rw [ex];exact QpT _ hg
  rw [dy,dx]at cop
  have all:∀j,y' ∣ (r j).natAbs:=fun j=>by
   have h1:x.natAbs*(r j).natAbs=y.natAbs*(R j).natAbs:=by rw [←QgK,←QgK,h j]
   rw [ex,ey,Nat.mul_assoc,Nat.mul_assoc]at h1
   have h2:x'*(r j).natAbs=y'*(R j).natAbs:=Nat.eq_of_mul_eq_mul_left hg h1
   exact cop.dvd_of_dvd_mul_left ⟨_,h2⟩
  have:=hp y' all
  rw [ey,this,ex,Nat.mul_one];exact⟨x',rfl⟩
 obtain⟨t,ht⟩:=Int.natAbs_dvd_natAbs.1 hA
 refine⟨t,fun e=>hx (by rw [ht,e,QfI]),ht,fun j=>?_⟩
 have h1:=h j
 rw [ht,Qeh]at h1
 exact(Int.eq_of_mul_eq_mul_left hy h1).symm
theorem QkE {t a:Int}(ht:t≠0):a.natAbs≤(t*a).natAbs:=by
 rw [QgK]
 exact Nat.le_mul_of_pos_left _ (Qmi.2 ht)
structure Qj7 (vs:List Vec) (rs:Piv):Prop where
 red:Red rs
 prim:∀q∈rs,QjO q.2
 spn:∀v∈vs,Qbg (rs.map Prod.snd) v
 det:det vs (rs.map Prod.fst)≠0
 len:vs.length=rs.length
theorem Qj7.cram {vs:List Vec}{rs:Piv}(h:Qj7 vs rs){p s:Piv}{q:Nat×Vec}(e:rs=p++q::s):
  ∃t:Int,t≠0∧Vm.det vs (rs.map Prod.fst)=q.2 q.1*t∧∀j,Vm.det vs (p.map Prod.fst++j::s.map Prod.fst)=t*q.2 j:=by
 have hq:q∈rs:=by rw [e];simp
 have hm:rs.map Prod.fst=p.map Prod.fst++q.1::s.map Prod.fst:=by rw [e];simp
 have hR:Q0 vs fun j=>Vm.det vs (p.map Prod.fst++j::s.map Prod.fst):=by
  have:=(Q0.det vs (p.map Prod.fst++s.map Prod.fst)).smul (sg (p.map Prod.fst))
  have e2:(fun j=>Vm.det vs (p.map Prod.fst++j::s.map Prod.fst))=fun j=>sg (p.map Prod.fst)*Vm.det vs (j::(p.map Prod.fst++s.map Prod.fst)):=by
   funext j;exact Qee.front _ (Qos vs) j _
  rw [e2];exact this
 have hl:=h.red.line (x:=fun j=>Vm.det vs (p.map Prod.fst++j::s.map Prod.fst)) (Qbg.trans hR h.spn) hq (fun u hu hne=>by
  refine Qee.at (Qos vs) _ _ ?_
  have:u.1∈rs.map Prod.fst:=Qv.2 ⟨u,hu,rfl⟩
  rw [hm]at this
  rcases QeG.1 this with h1 | h1
  ·exact Qml _ h1
  rcases Q3.1 h1 with h1 | h1
  ·exact absurd h1 hne
  exact List.mem_append_right _ h1)
 have hd:=h.det
 rw [hm]at hd
 obtain⟨t,t1,t2,t3⟩:=(h.prim q hq).fits (x:=Vm.det vs (p.map Prod.fst++q.1::s.map Prod.fst)) (y:=q.2 q.1) (R:=fun j=>Vm.det vs (p.map Prod.fst++j::s.map Prod.fst)) hd (h.red.ne q hq) (fun j=>(hl j).symm)
 exact⟨t,t1,by rw [hm];exact t2,t3⟩
theorem Qj7.le {m:Nat}{vs:List Vec}{rs:Piv}(h:Qj7 vs rs)(hv:∀v∈vs,∀j,(v j).natAbs≤m){q:Nat×Vec}(hq:q∈rs)(j:Nat):(q.2 j).natAbs≤fac vs.length*m ^ vs.length:=by
 obtain⟨p,s,e⟩:=QpO hq
 obtain⟨t,t1,_,t3⟩:=h.cram e
 refine Qas (QkE t1) ?_
 rw [←t3 j]
 refine QpL vs _ hv ?_
 rw [h.len,e];simp
theorem QmQ (x:Vec):∀(cs:List Nat) (f:List Nat→Int),(∀c∈cs,x c=0)→dexp f x cs=0
 | [],_,_=>rfl
 | c::cs,f,h=>by
  rw [dexp,h c Q8,QmQ x cs _ fun d hd=>h d (Qar _ hd)];simp
theorem QqI (x:Vec)(a:Nat)(s:List Nat)(hs:∀c∈s,x c=0):∀(p:List Nat) (f:List Nat→Int),(∀c∈p,x c=0)→dexp f x (p++a::s)=sg p*(x a*f (p++s))
 | [],f,_=>by
  show x a*f s-dexp (fun l=>f (a::l)) x s=_
  rw [QmQ x s _ hs];simp [sg]
 | c::p,f,h=>by
  show x c*f (p++a::s)-dexp (fun l=>f (c::l)) x (p++a::s)=_
  rw [h c Q8,QqI x a s hs p _ fun d hd=>h d (Qar _ hd)]
  simp [sg,Int.neg_mul]
theorem Qri (a b:Int)(x y:Vec):∀(cs:List Nat) (f:List Nat→Int),dexp f (fun j=>a*x j+b*y j) cs=a*dexp f x cs+b*dexp f y cs
 | [],f=>by simp [dexp]
 | c::cs,f=>by
  rw [dexp,dexp,dexp,Qri a b x y cs]
  rw [Int.add_mul,Int.mul_sub,Int.mul_sub,Qeh,Qeh]
  omega
theorem Qj7.nil {vs:List Vec}{rs:Piv}(h:Qj7 vs rs)(q:Nat){x:Vec}(hx:Q0 (rs.map Prod.snd) x):dexp (Vm.det vs) x (q::rs.map Prod.fst)=0:=by
 induction hx with
 | zero=>exact QmQ _ _ _ fun _ _=>rfl
 | lin a b x y _ _ h1 h2=>rw [Qri,h1,h2];simp
 | mem v hv=>
  obtain⟨u,hu,rfl⟩:=Qv.1 hv
  obtain⟨p,s,e⟩:=QpO hu
  obtain⟨t,t1,t2,t3⟩:=h.cram e
  have hm:rs.map Prod.fst=p.map Prod.fst++u.1::s.map Prod.fst:=by rw [e];simp
  have z:∀c,c∈p.map Prod.fst∨c∈s.map Prod.fst→u.2 c=0:=fun c hc=>by
   have nd:=h.red.nd
   rw [hm]at nd
   obtain⟨w,hw,rfl⟩:∃w∈rs,w.1=c:=by
    rcases hc with hc | hc<;>(obtain⟨w,hw,rfl⟩:=Qv.1 hc;exact⟨w,by rw [e];simp [hw],rfl⟩)
   refine h.red.zr u hu w hw fun e2=>?_
   rw [List.nodup_append]at nd
   obtain⟨n1,n2,n3⟩:=nd
   rw [QbW]at n2
   rcases hc with hc | hc
   ·exact n3 w.1 hc u.1 Q8 e2
   rw [e2]at hc;exact n2.1 hc
  rw [dexp,hm,QqI u.2 u.1 (s.map Prod.fst) (fun c hc=>z c (.inr hc)) (p.map Prod.fst) _ (fun c hc=>z c (.inl hc)),←hm,t2]
  have hq:Vm.det vs (q::(p.map Prod.fst++s.map Prod.fst))=sg (p.map Prod.fst)*(t*u.2 q):=by
   rw [←t3 q,Qee.front _ (Qos vs) q]
   rcases QvD (p.map Prod.fst)with h1 | h1<;>rw [h1]<;>simp
  rw [hq]
  rcases QvD (p.map Prod.fst)with h1 | h1<;>rw [h1]<;>simp only [Int.one_mul,Int.neg_mul,Int.mul_neg,Int.neg_neg]
  ·rw [Qjn (u.2 q),QiJ t,QiJ (u.2 q) t];omega
  rw [Qjn (u.2 q),QiJ t,QiJ (u.2 q) t];omega
theorem Qj7.add {vs:List Vec}{rs:Piv}(h:Qj7 vs rs){v y:Vec}{q:Nat}{al be:Int}(ha:al≠0)(hb:be≠0)(hs:Q0 (rs.map Prod.snd) fun j=>al*v j-be*y j)(hz:∀u∈rs,y u.1=0)(hq:y q≠0)(hp:QjO y)
  (up:Nat×Vec→Vec) (hu:∀u∈rs,QjO (up u)∧up u q=0∧∃g b c:Int,g≠0∧b≠0∧∀j,g*up u j=b*u.2 j-c*y j):Qj7 (v::vs) ((q,y)::rs.map fun u=>(u.1,up u)):=by
 have hf:(rs.map fun u=>(u.1,up u)).map Prod.fst=rs.map Prod.fst:=by simp
 have hqn:q ∉ rs.map Prod.fst:=fun hm=>by
  obtain⟨u,hu1,rfl⟩:=Qv.1 hm
  exact hq (hz u hu1)
 have at_:∀u∈rs,∀w∈rs,w.1≠u.1→up u w.1=0:=fun u hu1 w hw hne=>by
  obtain⟨_,_,g,b,c,hg,hb,he⟩:=hu u hu1
  have:=he w.1
  rw [h.red.zr u hu1 w hw hne,hz w hw]at this
  rw [QfI,QfI,Int.sub_zero]at this
  exact(QhG.1 this).resolve_left hg
 have own:∀u∈rs,up u u.1≠0:=fun u hu1 e=>by
  obtain⟨_,_,g,b,c,hg,hb,he⟩:=hu u hu1
  have:=he u.1
  rw [hz u hu1,e]at this
  rw [QfI,QfI,Int.sub_zero]at this
  rcases QhG.1 this.symm with h1 | h1
  ·exact hb h1
  exact h.red.ne u hu1 h1
 have red:Red ((q,y)::rs.map fun u=>(u.1,up u)):=by
  refine⟨?_,?_,?_⟩
  ·rw [Qaw,hf,QbW];exact⟨hqn,h.red.nd⟩
  ·intro u hm
   rcases Q3.1 hm with rfl | hm
   ·exact hq
   obtain⟨w,hw,rfl⟩:=Qv.1 hm
   exact own w hw
  intro u hm w hm2 hne
  rcases Q3.1 hm with rfl | hm
  ·rcases Q3.1 hm2 with rfl | hm2
   ·exact absurd rfl hne
   obtain⟨x,hx,rfl⟩:=Qv.1 hm2
   exact hz x hx
  obtain⟨x,hx,rfl⟩:=Qv.1 hm
  rcases Q3.1 hm2 with rfl | hm2
  ·exact(hu x hx).2.1
  obtain⟨z,hz2,rfl⟩:=Qv.1 hm2
  exact at_ x hx z hz2 hne
 have my:Qbg (((q,y)::rs.map fun u=>(u.1,up u)).map Prod.snd) y:=.of (.mem _ (by simp))
 have old:∀r∈rs.map Prod.snd,Qbg (((q,y)::rs.map fun u=>(u.1,up u)).map Prod.snd) r:=fun r hr=>by
  obtain⟨u,hu1,rfl⟩:=Qv.1 hr
  obtain⟨_,_,g,b,c,hg,hb,he⟩:=hu u hu1
  refine Qbg.div hb ?_
  have mu:Qbg (((q,y)::rs.map fun u=>(u.1,up u)).map Prod.snd) (up u):=.of (.mem _ (by
   rw [Qaw,Qda]
   exact Qar _ (Qv.2 ⟨u,hu1,rfl⟩)))
  have:=Qbg.lin g c mu my
  have e:(fun j=>b*u.2 j)=fun j=>g*up u j+c*y j:=by
   funext j;rw [he j];omega
  rw [e];exact this
 refine⟨red,?_,?_,?_,by simp [h.len]⟩
 ·intro u hm
  rcases Q3.1 hm with rfl | hm
  ·exact hp
  obtain⟨w,hw,rfl⟩:=Qv.1 hm
  exact(hu w hw).1
 ·intro w hw
  rcases Q3.1 hw with rfl | hw
  ·refine Qbg.div ha ?_
   have:=Qbg.lin 1 be (Qbg.trans hs old) my
   have e:(fun j=>al*w j)=fun j=>1*(al*w j-be*y j)+be*y j:=by funext j;omega
   rw [e];exact this
  exact(h.spn w hw).transQ old
 rw [Qaw,hf]
 show dexp (Vm.det vs) v (q::rs.map Prod.fst)≠0
 have h1:=h.nil q hs
 have e:(fun j=>al*v j-be*y j)=fun j=>al*v j+(-be)*y j:=by funext j;rw [Int.neg_mul];rfl
 rw [e,Qri]at h1
 have h2:dexp (Vm.det vs) y (q::rs.map Prod.fst)=y q*Vm.det vs (rs.map Prod.fst):=by
  rw [dexp,QmQ y (rs.map Prod.fst) _ fun c hc=>by
   obtain⟨u,hu1,rfl⟩:=Qv.1 hc
   exact hz u hu1]
  omega
 rw [h2]at h1
 intro h3
 rw [h3,QfI,Int.zero_add,Int.neg_mul]at h1
 rcases QhG.1 (Int.neg_eq_zero.1 h1)with h1 | h1
 ·exact hb h1
 rcases QhG.1 h1 with h1 | h1
 ·exact hq h1
 exact h.det h1
theorem Qj7.mid {m B:Nat}{vs:List Vec}{rs:Piv}(h:Qj7 vs rs)(hB:fac vs.length*m ^ vs.length≤B)(hv:∀v∈vs,∀j,(v j).natAbs≤m){v w:Vec}(hm:∀j,(v j).natAbs≤m){al be:Int}(ha:al≠0)(hb:be≠0){S:Piv}(hS:∀u∈S,u∈rs)(hn:(S.map Prod.fst).Nodup)
  (hs:Q0 (S.map Prod.snd) fun j=>al*v j-be*w j) (hz:∀u∈S,w u.1=0) (hp:QjO w) (j:Nat):(w j).natAbs≤(S.length+1)*(m*B):=by
 have rS:Red S:=⟨hn,fun u hu=>h.red.ne u (hS u hu),fun u hu x hx=>h.red.zr u (hS u hu) x (hS x hx)⟩
 obtain⟨c,hc⟩:=hs.comb hn
 have hci:∀u∈S,al*v u.1=c u.1*u.2 u.1:=fun u hu=>by
  have:=hc u.1
  rw [Qut rS c hu,hz u hu]at this
  omega
 have key:∀T:Piv,(∀u∈T,u∈S)→∃W:Vec,∀j,Vm.det vs (rs.map Prod.fst)*comb c T j=al*W j∧(W j).natAbs≤T.length*(m*B):=by
  intro T
  induction T with
  | nil=>intro _;exact⟨fun _=>0,fun j=>⟨by simp [comb],by simp⟩⟩
  | cons u T ih=>
   intro hT
   obtain⟨W,hW⟩:=ih fun x hx=>hT x (Qar _ hx)
   have hu:=hT u Q8
   obtain⟨p,s,e⟩:=QpO (hS u hu)
   obtain⟨t,t1,t2,t3⟩:=h.cram e
   refine⟨fun j=>v u.1*(t*u.2 j)+W j,fun j=>⟨?_,?_⟩⟩
   ·have e1:comb c (u::T) j=c u.1*u.2 j+comb c T j:=by simp [comb]
    rw [e1,Int.mul_add,Int.mul_add,(hW j).1]
    congr 1
    rw [t2]
    have:=hci u hu
    have e2:u.2 u.1*t*(c u.1*u.2 j)=c u.1*u.2 u.1*(t*u.2 j):=by
     simp [Qeh,QiJ,Qjn]
    rw [e2,←this,Qeh]
   have h1:(t*u.2 j).natAbs≤B:=by
    rw [←t3 j]
    exact Qas (QpL vs _ hv (by rw [h.len,e];simp)) hB
   have h2:(v u.1*(t*u.2 j)).natAbs≤m*B:=by rw [QgK];exact QnQ (hm _) h1
   have h3:=(hW j).2
   have:=Int.natAbs_add_le (v u.1*(t*u.2 j)) (W j)
   rw [Qfa,QbI,Nat.one_mul]
   show(v u.1*(t*u.2 j)+W j).natAbs≤_
   omega
 obtain⟨W,hW⟩:=key S fun u hu=>hu
 have hD:(Vm.det vs (rs.map Prod.fst)).natAbs≤B:=Qas (QpL vs _ hv (by rw [h.len];simp)) hB
 obtain⟨t,t1,_,t3⟩:=hp.fits (x:=Vm.det vs (rs.map Prod.fst)*be) (y:=al) (R:=fun j=>Vm.det vs (rs.map Prod.fst)*v j-W j) (Int.mul_ne_zero h.det hb) ha (fun j=>by
  have h1:=(hW j).1
  rw [←hc j,Int.mul_sub]at h1
  rw [Int.mul_sub,←h1]
  have e1:Vm.det vs (rs.map Prod.fst)*(al*v j)=al*(Vm.det vs (rs.map Prod.fst)*v j):=Qjn _ _ _
  have e2:Vm.det vs (rs.map Prod.fst)*(be*w j)=Vm.det vs (rs.map Prod.fst)*be*w j:=(Qeh _ _ _).symm
  omega)
 refine Qas (QkE t1) ?_
 rw [←t3 j]
 have h1:(Vm.det vs (rs.map Prod.fst)*v j).natAbs≤m*B:=by
  rw [QgK,Qkd m B];exact QnQ hD (hm j)
 have h2:=(hW j).2
 have:=Int.natAbs_sub_le (Vm.det vs (rs.map Prod.fst)*v j) (W j)
 rw [QbI,Nat.one_mul]
 omega
end Go.Vm
noncomputable section
namespace Go.Proofs
open Go Go.RowKit Go.Vm
def Sm (n:Int):Prop:=n.natAbs≤9223372036854775807
theorem Sm.w {n:Int}(h:Sm n):w64 n=n:=Qba (by unfold Sm at h;omega)
theorem Qwh : ∀(n:Nat) (a b:Int),b.natAbs=n→Sm a→Sm b→∃g,Qy (fun st=>Qfs st.1 st.2) (a,b)=some g∧g.natAbs=Nat.gcd a.natAbs b.natAbs:=by
 intro n
 induction n using Nat.strongRecOn with
 | ind n ih=>
  intro a b hb sa sb
  rw [Qdp]
  show ∃g,(Qfs a b).bind _=some g∧_
  unfold Qfs
  by_cases h0:b=0
  ·subst h0
   rw [show((0:Int) != 0)=false from rfl]
   exact⟨a,rfl,by simp⟩
  have e:(b != 0)=true:=by simpa using h0
  rw [e,cond_true,Qie rfl,Qr]
  have hm:(Int.tmod a b).natAbs=a.natAbs % b.natAbs:=Int.natAbs_tmod a b
  have hlt:a.natAbs % b.natAbs<b.natAbs:=Nat.mod_lt _ (Qmi.2 h0)
  obtain⟨g,h1,h2⟩:=ih (Int.tmod a b).natAbs (by omega) b (Int.tmod a b) rfl sb (by unfold Sm at *;omega)
  refine⟨g,h1,?_⟩
  rw [h2,hm,Nat.gcd_comm,←Nat.gcd_rec,Nat.gcd_comm]
theorem QtX {a b:Int}(ha:Sm a)(hb:Sm b):QgC a b=some (Nat.gcd a.natAbs b.natAbs:Int):=by
 unfold QgC
 obtain⟨g,h1,h2⟩:=Qwh _ a b rfl ha hb
 rw [h1,Qr]
 unfold QjX
 have hg:g.natAbs≤9223372036854775807:=by
  rw [h2]
  rcases Nat.eq_zero_or_pos b.natAbs with h0 | h0
  ·rw [h0,Nat.gcd_zero_right];exact ha
  exact Qas (Nat.le_of_dvd h0 (Nat.gcd_dvd_right _ _)) hb
 rw [Qba (by omega)]
 congr 1
 unfold max2
 split<;>omega
def Qbu (row:List Int):Nat:=row.foldl (fun d x=>Nat.gcd d x.natAbs) 0
theorem Qot (row:List Int):∀x∈row,Qbu row ∣ x.natAbs:=by
 have key:∀(row:List Int) (d:Nat),(row.foldl (fun d x=>Nat.gcd d x.natAbs) d ∣ d)∧∀x∈row,row.foldl (fun d x=>Nat.gcd d x.natAbs) d ∣ x.natAbs:=by
  intro row
  induction row with
  | nil=>intro d;exact⟨Nat.dvd_refl _,fun x h=>by cases h⟩
  | cons y row ih=>
   intro d
   obtain⟨h1,h2⟩:=ih (Nat.gcd d y.natAbs)
   refine⟨Nat.dvd_trans h1 (Nat.gcd_dvd_left _ _),fun x hx=>?_⟩
   rcases Q3.1 hx with rfl | hx
   ·exact Nat.dvd_trans h1 (Nat.gcd_dvd_right _ _)
   exact h2 x hx
 exact(key row 0).2
theorem QtY {row:List Int}{k:Nat}(h:∀x∈row,k ∣ x.natAbs):k ∣ Qbu row:=by
 have key:∀(row:List Int) (d:Nat),k ∣ d→(∀x∈row,k ∣ x.natAbs)→k ∣ row.foldl (fun d x=>Nat.gcd d x.natAbs) d:=by
  intro row
  induction row with
  | nil=>intro d hd _;exact hd
  | cons y row ih=>intro d hd h;exact ih _ (Nat.dvd_gcd hd (h y Q8)) fun x hx=>h x (Qar _ hx)
 exact key row 0 (Nat.dvd_zero _) h
def Qef (row:List Int):List Int:=if Qbu row=0 then row else row.map fun x=>Int.tdiv x (Qbu row)
def Qwt (row:List Int):Prop:=∀x∈row,Sm x
theorem QvE {row:List Int}{i:Nat}{x:Int}(h:row[i]? = some x):Qbu (row.take (i+1))=Nat.gcd (Qbu (row.take i)) x.natAbs:=by
 rw [QpS,h];simp [Qbu]
theorem QwD {row:List Int}(h:Qwt row):Qbu row≤9223372036854775807:=by
 by_cases h0:∃x∈row,x≠0
 ·obtain⟨x,hx,hne⟩:=h0
  exact Qas (Nat.le_of_dvd (Qmi.2 hne) (Qot row x hx)) (h x hx)
 have:0 ∣ Qbu row:=QtY fun x hx=>by
  have:x=0:=by
   cases Decidable.em (x=0)with
   | inl e=>exact e
   | inr e=>exact absurd ⟨x,hx,e⟩ h0
  rw [this];exact Nat.dvd_refl 0
 rw [Nat.eq_zero_of_zero_dvd this];omega
theorem Qr6 {row:List Int}(h:Qwt row)(hl:row.length≤4000000):Qdd row=some (Qef row):=by
 unfold Qdd
 have mx:(4000000:Nat)≤maxLen:=by decide
 have h1:=QgF (body:=fun st:Int×Int=>QbD row st.1 st.2) row.length (fun i s=>s=((i:Int),(Qbu (row.take i):Int))) (fun r=>r=(Qbu row:Int)) (fun i s hi hs=>by
  subst hs
  left
  have hx:row[i]? = some row[i]:=QH hi
  show ∃s',QbD row (i:Int) (Qbu (row.take i):Int)=_∧_
  unfold QbD
  have hs2:Sm (Qbu (row.take i):Int):=by
   have:=QwD (row:=row.take i) fun x hx=>h x (QfM hx)
   unfold Sm;omega
  rw [Qcn (show(i:Int)<(row.length:Int) by omega),cond_true,Q2,hx,Qr,QtX hs2 (h _ (Qei hi)),Qr]
  refine⟨_,rfl,?_⟩
  rw [QB hi (by omega),QvE hx];simp) (fun s hs=>by
  subst hs
  refine⟨_,?_,rfl⟩
  show QbD row (row.length:Int) (Qbu (row.take row.length):Int)=_
  unfold QbD
  rw [Qcm (by omega),List.take_length];rfl) (0,0) (by simp [Qbu])
 obtain⟨r,hr,rfl⟩:=h1
 rw [hr,Qr]
 unfold Qhu Qef
 by_cases h0:Qbu row=0
 ·rw [h0,if_pos rfl];rfl
 have e:((Qbu row:Int)==0)=false:=by simpa using h0
 rw [e,cond_false,if_neg h0]
 unfold QeX
 rw [Qie (by simp;omega),Qr]
 have h2:=QgF (body:=fun st:Int×List Int=>Qat row (Qbu row:Int) st.1 st.2) row.length (fun i s=>s=((i:Int),(row.take i).map (fun x=>Int.tdiv x (Qbu row))++List.replicate (row.length-i) 0)) (fun r=>r=row.map fun x=>Int.tdiv x (Qbu row)) (fun i s hi hs=>by
  subst hs
  left
  have hx:row[i]? = some row[i]:=QH hi
  show ∃s',Qat row (Qbu row:Int) (i:Int) _=_∧_
  unfold Qat Qiq
  have ln:((row.take i).map fun x=>Int.tdiv x (Qbu row)).length=i:=by simp;omega
  have hr2:List.replicate (row.length-i) (0:Int)=0::List.replicate (row.length-(i+1)) 0:=by
   rw [show row.length-i=(row.length-(i+1))+1 by omega];rfl
  have ne:((Qbu row:Int) != 0)=true:=by simpa using h0
  rw [Qcn (show(i:Int)<(row.length:Int) by omega),cond_true,Q2,hx,Qr,Qie ne,Qr,Qr,Q2,hr2,Qby (by omega),ln,Nat.sub_self]
  refine⟨_,rfl,?_⟩
  have sm:Sm (Int.tdiv row[i] (Qbu row)):=by
   have:=h _ (Qei hi)
   unfold Sm at *
   rw [Int.natAbs_tdiv]
   exact Qas (Nat.div_le_self _ _) this
  rw [QB hi (by omega),sm.w,QpS,hx]
  rw [Prod.mk.injEq]
  refine⟨rfl,?_⟩
  rw [Qmj,List.set_append_right _ _ (by omega),ln,Nat.sub_self,QnO,Qe9]
  rfl) (fun s hs=>by
  subst hs
  refine⟨_,?_,rfl⟩
  show Qat row (Qbu row:Int) (row.length:Int) _=_
  unfold Qat
  rw [Qcm (by omega)];simp) (0,List.replicate ((row.length:Int)).toNat 0) (by simp)
 obtain⟨r,hr,rfl⟩:=h2
 rw [hr];rfl
end Go.Proofs
noncomputable section
namespace Go.Proofs
open Go Go.RowKit Go.Vm
def vec (row:List Int):Vec:=fun j=>row.getD j 0
theorem QeU {row:List Int}{j:Nat}(h:j<row.length):vec row j=row[j]:=by
 unfold vec;rw [Qs8,QH h];rfl
theorem QeE {row:List Int}{j:Nat}(h:row.length≤j):vec row j=0:=by
 unfold vec;rw [Qs8,List.getElem?_eq_none h];rfl
theorem Qca {row:List Int}{j:Nat}(h:j<row.length):row[j]? = some (vec row j):=by rw [QeU h];exact QH h
theorem QsC {a b:List Int}(hl:a.length=b.length)(h:∀j,vec a j=vec b j):a=b:=by
 refine List.ext_getElem hl fun j h1 h2=>?_
 rw [←QeU h1,←QeU h2,h j]
theorem QtZ (row:List Int):(Qef row).length=row.length:=by unfold Qef;split<;>simp
theorem Qrj (row:List Int):∃c:Nat,0<c∧∀j,vec row j=(c:Int)*vec (Qef row) j:=by
 unfold Qef
 by_cases h:Qbu row=0
 ·rw [if_pos h];exact⟨1,by omega,fun j=>by simp⟩
 rw [if_neg h]
 refine⟨Qbu row,QnR h,fun j=>?_⟩
 by_cases hj:j<row.length
 ·rw [QeU hj,QeU (by simpa using hj),List.getElem_map]
  have:(Qbu row:Int) ∣ row[j]:=Int.natAbs_dvd_natAbs.1 (Qot row _ (Qei hj))
  exact(Int.mul_tdiv_cancel' this).symm
 rw [QeE (by omega),QeE (by simpa using hj)];simp
theorem Qp1 (row:List Int)(j:Nat):(vec (Qef row) j).natAbs≤(vec row j).natAbs:=by
 obtain⟨c,hc,h⟩:=Qrj row
 rw [h j]
 exact QkE (by omega)
theorem QsS {row:List Int}(h:∃j,vec row j≠0):QjO (vec (Qef row)):=by
 intro d hd
 have hg:Qbu row≠0:=fun e=>by
  obtain⟨j,hj⟩:=h
  by_cases hlt:j<row.length
  ·rw [QeU hlt]at hj
   have:=Qot row _ (Qei hlt)
   rw [e]at this
   exact hj (Int.natAbs_eq_zero.1 (Nat.eq_zero_of_zero_dvd this))
  exact hj (QeE (by omega))
 have h1:∀x∈row,Qbu row*d ∣ x.natAbs:=fun x hx=>by
  obtain⟨j,hj,rfl⟩:=Qmn.1 hx
  have h2:=hd j
  have e:vec (Qef row) j=Int.tdiv row[j] (Qbu row):=by
   unfold Qef
   rw [if_neg hg,QeU (by simpa using hj),List.getElem_map]
  rw [e,Int.natAbs_tdiv]at h2
  have h3:(Int.natAbs (Qbu row:Int))=Qbu row:=rfl
  rw [h3]at h2
  obtain⟨k,hk⟩:=h2
  obtain⟨l,hl⟩:=Qot row _ (Qei hj)
  refine⟨k,?_⟩
  have hk:Qbu row*l / Qbu row=d*k:=by rw [←hl];exact hk
  rw [QpT _ (QnR hg)]at hk
  rw [hl,hk,Nat.mul_assoc]
 obtain⟨k,hk⟩:=QtY h1
 have h2:Qbu row*1=Qbu row*(d*k):=by rw [Nat.mul_one,←Nat.mul_assoc];exact hk
 have h3:=Nat.eq_of_mul_eq_mul_left (QnR hg) h2
 exact Nat.eq_one_of_mul_eq_one_right h3.symm
def QhF (n:Nat)(row by_:List Int)(k:Nat):List Int:=(List.range n).map fun j=>vec row j*vec by_ k-vec by_ j*vec row k
def Qa6 (n:Nat)(row by_:List Int)(k:Nat):List Int:=if vec row k=0 then row else Qef (QhF n row by_ k)
theorem Qjc (n:Nat)(row by_:List Int)(k:Nat):(QhF n row by_ k).length=n:=by simp [QhF]
theorem Qt0 {n:Nat}{row by_:List Int}{k:Nat}(h:row.length=n):(Qa6 n row by_ k).length=n:=by
 unfold Qa6;split
 ·exact h
 rw [QtZ,Qjc]
theorem Qou {n:Nat}{row by_:List Int}{k:Nat}(hr:row.length=n)(hb:by_.length=n)(j:Nat):vec (QhF n row by_ k) j=vec row j*vec by_ k-vec by_ j*vec row k:=by
 by_cases hj:j<n
 ·rw [QeU (by rw [Qjc];exact hj)];simp [QhF]
 rw [QeE (by rw [Qjc];omega),QeE (row:=row) (j:=j) (by omega),QeE (row:=by_) (j:=j) (by omega)];simp
theorem Qt1 {n k:Nat}{row by_:List Int}(hr:row.length=n)(hb:by_.length=n)(hk:k<n)(hn:n≤4000000)
  (h1:∀j,(vec row j*vec by_ k).natAbs≤4611686018427387903) (h2:∀j,(vec by_ j*vec row k).natAbs≤4611686018427387903):Q1 (n:Int) row by_ (k:Int)=some (Qa6 n row by_ k):=by
 have mx:(4000000:Nat)≤maxLen:=by decide
 unfold Q1 Qa6
 rw [Q2,Qca (by omega),Qr]
 by_cases h0:vec row k=0
 ·rw [h0,if_pos rfl];rfl
 have e:(vec row k==0)=false:=by simpa using h0
 rw [e,cond_false,if_neg h0,Qie (by simp;omega),Qr]
 have h:=QgF (body:=fun st:Int×List Int=>QaM (n:Int) row by_ (k:Int) st.1 st.2) n (fun i s=>s=((i:Int),(QhF n row by_ k).take i++List.replicate (n-i) 0)) (fun r=>r=QhF n row by_ k) (fun i s hi hs=>by
  subst hs
  left
  show ∃s',QaM (n:Int) row by_ (k:Int) (i:Int) _=_∧_
  unfold QaM
  have ln:((QhF n row by_ k).take i).length=i:=by rw [Qfb,Qjc];omega
  have hr2:List.replicate (n-i) (0:Int)=0::List.replicate (n-(i+1)) 0:=by
   rw [show n-i=(n-(i+1))+1 by omega];rfl
  rw [Qcn (show(i:Int)<((List.replicate (n:Int).toNat (0:Int)).length:Int) by simp;omega),cond_true,Q2,Qca (row:=row) (by omega),Qr,Q2,Qca (row:=by_) (by omega),Qr,Q2,Qca (row:=by_) (by omega),Qr,Q2,Qca (row:=row) (by omega),Qr,Q2,hr2,Qby (by omega),ln,Nat.sub_self]
  refine⟨_,rfl,?_⟩
  have b1:=h1 i
  have b2:=h2 i
  have e1:w64 (vec row i*vec by_ k)=vec row i*vec by_ k:=Qba (by omega)
  have e2:w64 (vec by_ i*vec row k)=vec by_ i*vec row k:=Qba (by omega)
  have e3:w64 (vec row i*vec by_ k-vec by_ i*vec row k)=vec (QhF n row by_ k) i:=by rw [Qou hr hb,Qba (by omega)]
  have tk:(QhF n row by_ k).take (i+1)=(QhF n row by_ k).take i++[vec (QhF n row by_ k) i]:=by
   rw [QpS,Qca (by rw [Qjc];exact hi)];rfl
  rw [QB hi (by omega),e1,e2,e3,Qmj,List.set_append_right _ _ (by omega),ln,Nat.sub_self,tk,Qe9]
  rfl) (fun s hs=>by
  subst hs
  refine⟨_,?_,rfl⟩
  show QaM (n:Int) row by_ (k:Int) (n:Int) _=_
  unfold QaM
  rw [Qcm (by simp),Qkb (by rw [Qjc];omega)];simp) (0,List.replicate (n:Int).toNat 0) (by simp)
 obtain⟨r,hr',rfl⟩:=h
 rw [hr',Qr]
 unfold Qev
 rw [Qr6 (fun x hx=>by
  obtain⟨j,hj,rfl⟩:=Qmn.1 hx
  have:=Qou (k:=k) hr hb j
  rw [QeU hj]at this
  rw [this]
  have b1:=h1 j
  have b2:=h2 j
  unfold Sm;omega) (by rw [Qjc];exact hn)]
 rfl
theorem Quu {n k:Nat}{row by_:List Int}(hr:row.length=n)(hb:by_.length=n)(h0:vec row k≠0):∃c:Nat,0<c∧∀j,(c:Int)*vec (Qa6 n row by_ k) j=vec by_ k*vec row j-vec row k*vec by_ j:=by
 unfold Qa6
 rw [if_neg h0]
 obtain⟨c,hc,h⟩:=Qrj (QhF n row by_ k)
 refine⟨c,hc,fun j=>?_⟩
 rw [←h j,Qou hr hb,QiJ (vec row j),QiJ (vec by_ j)]
theorem Qxe {n k:Nat}{row by_:List Int}(hr:row.length=n)(hb:by_.length=n)(j:Nat)(h0:vec row k≠0):(vec (Qa6 n row by_ k) j).natAbs≤(vec row j*vec by_ k-vec by_ j*vec row k).natAbs:=by
 unfold Qa6
 rw [if_neg h0,←Qou hr hb]
 exact Qp1 _ j
theorem Qt2 {n k:Nat}{row by_:List Int}(h:QjO (vec row)∨∀j,vec row j=0):QjO (vec (Qa6 n row by_ k))∨∀j,vec (Qa6 n row by_ k) j=0:=by
 unfold Qa6
 split
 ·exact h
 by_cases hz:∃j,vec (QhF n row by_ k) j≠0
 ·exact .inl (QsS hz)
 right;intro j
 have h1:vec (QhF n row by_ k) j=0:=by
  cases Decidable.em (vec (QhF n row by_ k) j=0)with
  | inl e=>exact e
  | inr e=>exact absurd ⟨j,e⟩ hz
 have h2:=Qp1 (QhF n row by_ k) j
 rw [h1]at h2
 exact Int.natAbs_eq_zero.1 (by simpa using h2)
end Go.Proofs
