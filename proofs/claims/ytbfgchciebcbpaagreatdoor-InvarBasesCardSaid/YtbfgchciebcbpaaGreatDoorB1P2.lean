/- A part of the proof; what it holds is told at each theorem. -/
import Derived.KernelRfl
import Derived.Test.YtbfgchciebcbpaaGreatDoorB1T2
import Derived.Test.YtbfgchciebcbpaaGreatDoorB1XPlA
import Derived.Test.YtbfgchciebcbpaaGreatDoorB1P1
import Derived.Test.YtbfgchciebcbpaaGreatDoorB1P1
set_option linter.unusedVariables false
set_option linter.unusedSimpArgs false
set_option linter.unusedSectionVars false
set_option linter.deprecated false
namespace Go.Vm
abbrev Vec : Type:=Nat→Int
def dexp : (List Nat→Int)→Vec→List Nat→Int
 | _,_,[]=>0
 | f,v,c::cs=>v c*f cs-dexp (fun l=>f (c::l)) v cs
def det : List Vec→List Nat→Int
 | [],[]=>1
 | [],_::_=>0
 | v::vs,cs=>dexp (det vs) v cs
theorem Qv8 (v:Vec):∀(cs:List Nat) (f:List Nat→Int),dexp (fun l=>-f l) v cs=-dexp f v cs
 | [],f=>rfl
 | c::cs,f=>by
  rw [dexp,dexp,Qv8 v cs (fun l=>f (c::l)),Int.mul_neg];omega
theorem Qxp (v:Vec){cs:List Nat}{f g:List Nat→Int}(h:∀l,f l=g l):dexp f v cs=dexp g v cs:=by
 rw [show f=g from funext h]
def QeG (f:List Nat→Int):Prop:=∀p a b s,f (p++a::b::s)=-f (p++b::a::s)
theorem QeG.cons {f:List Nat→Int}(h:QeG f)(c:Nat):QeG fun l=>f (c::l):=fun p a b s=>h (c::p) a b s
theorem QeG.app {f:List Nat→Int}(h:QeG f)(q:List Nat):QeG fun l=>f (q++l):=fun p a b s=>by
 have:=h (q++p) a b s
 simpa [Qd6] using this
theorem QeG.dexp (v:Vec):∀(p:List Nat) {f:List Nat→Int},QeG f→∀a b s,dexp f v (p++a::b::s)=-dexp f v (p++b::a::s)
 | [],f,h,a,b,s=>by
  show v a*f (b::s)-(v b*f (a::s)-Vm.dexp (fun l=>f (a::b::l)) v s)=-(v b*f (a::s)-(v a*f (b::s)-Vm.dexp (fun l=>f (b::a::l)) v s))
  rw [Qxp v (f:=fun l=>f (a::b::l)) (g:=fun l=>-f (b::a::l)) fun l=>h [] a b l,Qv8 v s (fun l=>f (b::a::l))]
  omega
 | c::p,f,h,a,b,s=>by
  show v c*f (p++a::b::s)-Vm.dexp (fun l=>f (c::l)) v (p++a::b::s)=-(v c*f (p++b::a::s)-Vm.dexp (fun l=>f (c::l)) v (p++b::a::s))
  rw [h p a b s,QeG.dexp v p (h.cons c) a b s,Int.mul_neg]
  omega
theorem Qoc : ∀vs:List Vec,QeG (det vs)
 | []=>fun p a b s=>by cases p<;>rfl
 | v::vs=>fun p a b s=>QeG.dexp v p (Qoc vs) a b s
def sg : List Nat→Int
 | []=>1
 | _::p=>-sg p
theorem Qx1 (p:List Nat):sg p=1∨sg p=-1:=by
 induction p with
 | nil=>exact .inl rfl
 | cons _ p ih=>rcases ih with h | h<;>simp [sg,h]
theorem QeG.front : ∀(p:List Nat) {f:List Nat→Int},QeG f→∀a s,f (p++a::s)=sg p*f (a::(p++s))
 | [],f,h,a,s=>by simp [sg]
 | c::p,f,h,a,s=>by
  have h1:=QeG.front p (h.cons c) a s
  have h2:=h [] c a (p++s)
  show f (c::(p++a::s))=-sg p*f (a::c::(p++s))
  rw [h1]
  show sg p*f (c::a::(p++s))=_
  rw [show f (c::a::(p++s))=-f (a::c::(p++s))from h2]
  simp [Int.mul_neg,Int.neg_mul]
theorem QeG.twice {f:List Nat→Int}(h:QeG f)(a:Nat){l:List Nat}(hl:a∈l):f (a::l)=0:=by
 obtain⟨q,s,rfl⟩:=QpN hl
 have h1:=QeG.front q (h.cons a) a s
 have h2:f (a::a::(q++s))=-f (a::a::(q++s)):=h [] a a (q++s)
 have h3:f (a::a::(q++s))=0:=by omega
 show f (a::(q++a::s))=0
 rw [h1]
 show sg q*f (a::a::(q++s))=0
 rw [h3,Qc1]
theorem QeG.at {f:List Nat→Int}(h:QeG f)(p s:List Nat){a:Nat}(ha:a∈p++s):f (p++a::s)=0:=by
 rw [QeG.front p h a s,h.twice a ha,Qc1]
inductive Qaf (vs:List Vec):Vec→Prop where
 | zero:Qaf vs (fun _=>0)
 | mem (v:Vec):v∈vs→Qaf vs v
 | lin (a b:Int) (x y:Vec):Qaf vs x→Qaf vs y→Qaf vs (fun j=>a*x j+b*y j)
theorem Qaf.smul {vs:List Vec}{x:Vec}(h:Qaf vs x)(a:Int):Qaf vs fun j=>a*x j:=by
 have:=Qaf.lin a 0 x x h h
 simpa using this
theorem Qaf.sub {vs:List Vec}{x y:Vec}(a b:Int)(hx:Qaf vs x)(hy:Qaf vs y):Qaf vs fun j=>a*x j-b*y j:=by
 have:=Qaf.lin a (-b) x y hx hy
 have e:(fun j=>a*x j-b*y j)=fun j=>a*x j+-b*y j:=by
  funext j;rw [Int.neg_mul];rfl
 rw [e];exact this
theorem Qaf.mono {vs ws:List Vec}(h:∀v∈vs,Qaf ws v){x:Vec}(hx:Qaf vs x):Qaf ws x:=by
 induction hx with
 | zero=>exact .zero
 | mem v hv=>exact h v hv
 | lin a b x y _ _ h1 h2=>exact .lin a b x y h1 h2
theorem Qaf.dexp {vs:List Vec}(v:Vec):∀(cs:List Nat) (f:Nat→List Nat→Int),(∀l,Qaf vs fun j=>f j l)→Qaf vs fun j=>dexp (f j) v cs
 | [],f,h=>.zero
 | c::cs,f,h=>by
  have h1:=Qaf.dexp v cs (fun j l=>f j (c::l)) fun l=>h (c::l)
  have:=Qaf.sub (v c) 1 (h cs) h1
  simpa [Vm.dexp] using this
theorem Qaf.det : ∀(vs:List Vec) (cs:List Nat),Qaf vs fun j=>det vs (j::cs)
 | [],cs=>by
  show Qaf [] fun _=>0
  exact .zero
 | v::vs,cs=>by
  have up:∀{x},Qaf vs x→Qaf (v::vs) x:=fun h=>h.mono fun u hu=>.mem u (Qag _ hu)
  have h1:Qaf (v::vs) fun j=>Vm.dexp (fun l=>Vm.det vs (j::l)) v cs:=up (Qaf.dexp v cs (fun j l=>Vm.det vs (j::l)) fun l=>Qaf.det vs l)
  have:=Qaf.sub (Vm.det vs cs) 1 (Qaf.mem v (Q6 (l:=vs))) h1
  have e:(fun j=>Vm.det (v::vs) (j::cs))=fun j=>Vm.det vs cs*v j-1*Vm.dexp (fun l=>Vm.det vs (j::l)) v cs:=by
   funext j
   show v j*Vm.det vs cs-Vm.dexp (fun l=>Vm.det vs (j::l)) v cs=_
   rw [QfG (v j),Int.one_mul]
  rw [e];exact this
def fac : Nat→Nat
 | 0=>1
 | n+1=>(n+1)*fac n
theorem QwH {m B:Nat}{v:Vec}(hv:∀j,(v j).natAbs≤m):∀(cs:List Nat) (f:List Nat→Int),(∀l,l.length+1=cs.length→(f l).natAbs≤B)→(dexp f v cs).natAbs≤cs.length*(m*B)
 | [],f,h=>by simp [dexp]
 | c::cs,f,h=>by
  have h1:=QwH hv cs (fun l=>f (c::l)) (fun l hl=>h (c::l) (by simp;omega))
  have h2:=h cs rfl
  have h3:(v c*f cs).natAbs≤m*B:=by rw [Qd5];exact QkS (hv c) h2
  rw [dexp,Qga,Qb1,Nat.one_mul]
  have:=Int.natAbs_sub_le (v c*f cs) (dexp (fun l=>f (c::l)) v cs)
  omega
theorem QpI {m:Nat}:∀(vs:List Vec) (cs:List Nat),(∀v∈vs,∀j,(v j).natAbs≤m)→cs.length=vs.length→(det vs cs).natAbs≤fac vs.length*m ^ vs.length
 | [],[],_,_=>by simp [det,fac]
 | [],_::_,_,h=>by simp at h
 | v::vs,cs,hv,hl=>by
  have h1:=QwH (B:=fac vs.length*m ^ vs.length) (hv v Q6) cs (det vs) (fun l h=>QpI vs l (fun u hu=>hv u (Qag _ hu)) (by simp at hl;omega))
  rw [det]
  refine QU h1 ?_
  rw [hl,Qga,fac,Nat.pow_succ]
  apply Nat.le_of_eq
  simp [Nat.mul_assoc,Qiq,Nat.mul_left_comm]
abbrev Piv : Type:=List (Nat×Vec)
structure Red (rs:Piv):Prop where
 nd:(rs.map Prod.fst).Nodup
 ne:∀q∈rs,q.2 q.1≠0
 zr:∀q∈rs,∀p∈rs,p.1≠q.1→q.2 p.1=0
def comb (c:Nat→Int)(rs:Piv):Vec:=fun j=>(rs.map fun q=>c q.1*q.2 j).sum
theorem Qv9 (a b:Int)(c d:Nat→Int)(rs:Piv)(j:Nat):comb (fun p=>a*c p+b*d p) rs j=a*comb c rs j+b*comb d rs j:=by
 unfold comb
 induction rs with
 | nil=>simp
 | cons q rs ih=>
  simp only [Qat,List.sum_cons,ih]
  rw [Int.add_mul,Int.mul_add,Int.mul_add,Qba,Qba]
  omega
theorem QyO {rs:Piv}(p:Nat):∀(hn:(rs.map Prod.fst).Nodup) (r:Vec),(p,r)∈rs→∀j,comb (fun k=>if k=p then 1 else 0) rs j=r j:=by
 induction rs with
 | nil=>intro _ r h;cases h
 | cons q rs ih=>
  intro hn r h j
  rw [Qat,QcB]at hn
  unfold comb at ih ⊢
  rw [Qat,List.sum_cons]
  rcases QY.1 h with e | h
  ·subst e
   have:(rs.map fun q=>(if q.1=p then(1:Int)else 0)*q.2 j).sum=0:=by
    have key:∀l:Piv,(∀q∈l,q.1≠p)→(l.map fun q=>(if q.1=p then(1:Int)else 0)*q.2 j).sum=0:=by
     intro l
     induction l with
     | nil=>intro _;rfl
     | cons u l ih2=>
      intro hl
      rw [Qat,List.sum_cons,if_neg (hl u Q6),ih2 fun x hx=>hl x (Qag _ hx)]
      simp
    exact key rs fun u hu e=>hn.1 (Qp.2 ⟨u,hu,e⟩)
   rw [this];simp
  have hne:q.1≠p:=fun e=>hn.1 (Qp.2 ⟨(p,r),h,e.symm⟩)
  have i2:=ih hn.2 r h j
  rw [i2]
  show(if q.1=p then(1:Int)else 0)*q.2 j+r j=r j
  rw [if_neg hne];simp
theorem Qaf.comb {rs:Piv}(hn:(rs.map Prod.fst).Nodup){x:Vec}(h:Qaf (rs.map Prod.snd) x):∃c:Nat→Int,∀j,x j=comb c rs j:=by
 induction h with
 | zero=>
  refine⟨fun _=>0,fun j=>?_⟩
  have:=Qv9 0 0 (fun _=>0) (fun _=>0) rs j
  simpa using this.symm
 | mem v hv=>
  obtain⟨q,hq,rfl⟩:=Qp.1 hv
  exact⟨fun k=>if k=q.1 then 1 else 0,fun j=>(QyO q.1 hn q.2 hq j).symm⟩
 | lin a b x y _ _ h1 h2=>
  obtain⟨c,hc⟩:=h1
  obtain⟨d,hd⟩:=h2
  exact⟨fun p=>a*c p+b*d p,fun j=>by show a*x j+b*y j=_;rw [Qv9,hc,hd]⟩
theorem QuH {rs:Piv}(h:Red rs)(c:Nat→Int){q:Nat×Vec}(hq:q∈rs):comb c rs q.1=c q.1*q.2 q.1:=by
 have key:∀l:Piv,(l.map Prod.fst).Nodup→(∀u∈l,u∈rs)→(l.map fun u=>c u.1*u.2 q.1).sum=if q.1∈l.map Prod.fst then c q.1*q.2 q.1 else 0:=by
  intro l
  induction l with
  | nil=>intro _ _;rfl
  | cons u l ih=>
   intro hn hm
   rw [Qat,QcB]at hn
   rw [Qat,List.sum_cons,ih hn.2 fun x hx=>hm x (Qag _ hx)]
   by_cases e:u.1=q.1
   ·have hu:u=q:=by
     have:=hm u Q6
     have nd:=h.nd
     rw [List.nodup_iff_pairwise_ne]at nd
     clear ih
     have inj:∀(l:Piv),(l.map Prod.fst).Nodup→∀a∈l,∀b∈l,a.1=b.1→a=b:=by
      intro l
      induction l with
      | nil=>intro _ a ha;cases ha
      | cons z l ih3=>
       intro hn a ha b hb e
       rw [Qat,QcB]at hn
       rcases QY.1 ha with ha | ha
       ·rcases QY.1 hb with hb | hb
        ·rw [ha,hb]
        exact absurd (Qp.2 ⟨b,hb,by rw [←e,ha]⟩) hn.1
       rcases QY.1 hb with hb | hb
       ·exact absurd (Qp.2 ⟨a,ha,by rw [e,hb]⟩) hn.1
       exact ih3 hn.2 a ha b hb e
     exact inj rs h.nd u this q hq e
    subst hu
    rw [if_neg hn.1,if_pos (by simp)];omega
   have hz:u.2 q.1=0:=h.zr u (hm u Q6) q hq (fun e2=>e e2.symm)
   rw [hz,Qc1,Int.zero_add]
   by_cases hi:q.1∈l.map Prod.fst
   ·rw [if_pos hi,if_pos (by simp only [Qat];exact Qag _ hi)]
   rw [if_neg hi,if_neg (by simp only [Qat];intro hh;exact(QY.1 hh).elim (fun hh=>e hh.symm) hi)]
 have:=key rs h.nd fun u hu=>hu
 rw [if_pos (Qp.2 ⟨q,hq,rfl⟩)]at this
 exact this
theorem Red.inj {rs:Piv}(h:Red rs){x:Vec}(hx:Qaf (rs.map Prod.snd) x)(hz:∀q∈rs,x q.1=0):∀j,x j=0:=by
 obtain⟨c,hc⟩:=hx.comb h.nd
 have h0:∀q∈rs,c q.1=0:=fun q hq=>by
  have h1:=hz q hq
  rw [hc,QuH h c hq]at h1
  rcases Qdm.1 h1 with h2 | h2
  ·exact h2
  exact absurd h2 (h.ne q hq)
 intro j
 rw [hc]
 unfold comb
 have key:∀l:Piv,(∀q∈l,c q.1=0)→(l.map fun q=>c q.1*q.2 j).sum=0:=by
  intro l
  induction l with
  | nil=>intro _;rfl
  | cons u l ih=>intro hl;rw [Qat,List.sum_cons,hl u Q6,ih fun x hx=>hl x (Qag _ hx)];simp
 exact key rs h0
def Qz (vs:List Vec)(x:Vec):Prop:=∃a:Int,a≠0∧Qaf vs fun j=>a*x j
theorem Red.line {rs:Piv}(h:Red rs){x:Vec}(hx:Qz (rs.map Prod.snd) x){q:Nat×Vec}(hq:q∈rs)(hz:∀p∈rs,p.1≠q.1→x p.1=0)(j:Nat):q.2 q.1*x j=x q.1*q.2 j:=by
 obtain⟨a,ha,hs⟩:=hx
 have h1:=Qaf.sub (q.2 q.1) (a*x q.1) hs (Qaf.mem q.2 (Qp.2 ⟨q,hq,rfl⟩))
 have h2:=h.inj h1 (fun p hp=>by
  by_cases e:p.1=q.1
  ·rw [e,QfG (a*x q.1)];simp
  rw [hz p hp e,h.zr q hq p hp e];simp) j
 have h3:a*(q.2 q.1*x j)=a*(x q.1*q.2 j):=by
  have e1:q.2 q.1*(a*x j)=a*(q.2 q.1*x j):=by rw [QhR]
  have e2:a*x q.1*q.2 j=a*(x q.1*q.2 j):=Qba _ _ _
  rw [e1,e2]at h2
  omega
 exact Qvl ha h3
theorem Qz.of {vs:List Vec}{x:Vec}(h:Qaf vs x):Qz vs x:=⟨1,by decide,by simpa using h⟩
theorem Qz.zero {vs:List Vec}:Qz vs fun _=>0:=.of .zero
theorem Qz.lin {vs:List Vec}{x y:Vec}(a b:Int)(hx:Qz vs x)(hy:Qz vs y):Qz vs fun j=>a*x j+b*y j:=by
 obtain⟨c,hc,h1⟩:=hx
 obtain⟨d,hd,h2⟩:=hy
 refine⟨c*d,QiY hc hd,?_⟩
 have:=Qaf.lin (d*a) (c*b) _ _ h1 h2
 have e:(fun j=>c*d*(a*x j+b*y j))=fun j=>d*a*(c*x j)+c*b*(d*y j):=by
  funext j
  rw [Int.mul_add]
  congr 1
  ·rw [Qba,Qba,QhR c d,QhR c a]
  rw [Qba,Qba,QhR d b]
 rw [e];exact this
theorem Qz.trans {vs ws:List Vec}{x:Vec}(h:Qaf vs x)(hv:∀v∈vs,Qz ws v):Qz ws x:=by
 induction h with
 | zero=>exact .zero
 | mem v h=>exact hv v h
 | lin a b x y _ _ h1 h2=>exact h1.lin a b h2
theorem Qz.div {vs:List Vec}{x:Vec}{a:Int}(ha:a≠0)(h:Qz vs fun j=>a*x j):Qz vs x:=by
 obtain⟨c,hc,h1⟩:=h
 refine⟨c*a,QiY hc ha,?_⟩
 have e:(fun j=>c*a*x j)=fun j=>c*(a*x j):=by funext j;exact Qba _ _ _
 rw [e];exact h1
theorem Qz.transQ {vs ws:List Vec}{x:Vec}(h:Qz vs x)(hv:∀v∈vs,Qz ws v):Qz ws x:=by
 obtain⟨c,hc,h1⟩:=h
 exact Qz.div hc (Qz.trans h1 hv)
def QjU (x:Vec):Prop:=∀d:Nat,(∀j,d ∣ (x j).natAbs)→d=1
theorem QjU.fits {r R:Vec}{x y:Int}(hp:QjU r)(hx:x≠0)(hy:y≠0)(h:∀j,x*r j=y*R j):∃t:Int,t≠0∧x=y*t∧∀j,R j=t*r j:=by
 have hA:y.natAbs ∣ x.natAbs:=by
  have hy0:0<y.natAbs:=QkM.2 hy
  have hg:0<Nat.gcd y.natAbs x.natAbs:=Qot _ hy0
  have cop:=Nat.coprime_div_gcd_div_gcd hg
  obtain⟨y',ey⟩:=QpQ y.natAbs x.natAbs
  obtain⟨x',ex⟩:=Nat.gcd_dvd_right y.natAbs x.natAbs
  generalize Nat.gcd y.natAbs x.natAbs=g at *
  have dy:y.natAbs / g=y':=by rw [ey];exact Qnl _ hg
  have dx:x.natAbs / g=x':=by rw [ex];exact Qnl _ hg
  rw [dy,dx]at cop
  have all:∀j,y' ∣ (r j).natAbs:=fun j=>by
   have h1:x.natAbs*(r j).natAbs=y.natAbs*(R j).natAbs:=by rw [←Qd5,←Qd5,h j]
   rw [ex,ey,Nat.mul_assoc,Nat.mul_assoc]at h1
   have h2:x'*(r j).natAbs=y'*(R j).natAbs:=Nat.eq_of_mul_eq_mul_left hg h1
   exact cop.dvd_of_dvd_mul_left ⟨_,h2⟩
  have:=hp y' all
  rw [ey,this,ex,Nat.mul_one];exact⟨x',rfl⟩
 obtain⟨t,ht⟩:=Int.natAbs_dvd_natAbs.1 hA
 refine⟨t,fun e=>hx (by rw [ht,e,Qc1]),ht,fun j=>?_⟩
 have h1:=h j
 rw [ht,Qba]at h1
 exact(Qvl hy h1).symm
theorem Qmv {t a:Int}(ht:t≠0):a.natAbs≤(t*a).natAbs:=by
 rw [Qd5]
 exact Nat.le_mul_of_pos_left _ (QkM.2 ht)
structure QjV (vs:List Vec) (rs:Piv):Prop where
 red:Red rs
 prim:∀q∈rs,QjU q.2
 spn:∀v∈vs,Qz (rs.map Prod.snd) v
 det:det vs (rs.map Prod.fst)≠0
 len:vs.length=rs.length
theorem QjV.cram {vs:List Vec}{rs:Piv}(h:QjV vs rs){p s:Piv}{q:Nat×Vec}(e:rs=p++q::s):
  ∃t:Int,t≠0∧Vm.det vs (rs.map Prod.fst)=q.2 q.1*t∧∀j,Vm.det vs (p.map Prod.fst++j::s.map Prod.fst)=t*q.2 j:=by
 have hq:q∈rs:=by rw [e];simp
 have hm:rs.map Prod.fst=p.map Prod.fst++q.1::s.map Prod.fst:=by rw [e];simp
 have hR:Qaf vs fun j=>Vm.det vs (p.map Prod.fst++j::s.map Prod.fst):=by
  have:=(Qaf.det vs (p.map Prod.fst++s.map Prod.fst)).smul (sg (p.map Prod.fst))
  have e2:(fun j=>Vm.det vs (p.map Prod.fst++j::s.map Prod.fst))=fun j=>sg (p.map Prod.fst)*Vm.det vs (j::(p.map Prod.fst++s.map Prod.fst)):=by
   funext j;exact QeG.front _ (Qoc vs) j _
  rw [e2];exact this
 have hl:=h.red.line (x:=fun j=>Vm.det vs (p.map Prod.fst++j::s.map Prod.fst)) (Qz.trans hR h.spn) hq (fun u hu hne=>by
  refine QeG.at (Qoc vs) _ _ ?_
  have:u.1∈rs.map Prod.fst:=Qp.2 ⟨u,hu,rfl⟩
  rw [hm]at this
  rcases Qdo.1 this with h1 | h1
  ·exact QlP _ h1
  rcases QY.1 h1 with h1 | h1
  ·exact absurd h1 hne
  exact QrN _ h1)
 have hd:=h.det
 rw [hm]at hd
 obtain⟨t,t1,t2,t3⟩:=(h.prim q hq).fits (x:=Vm.det vs (p.map Prod.fst++q.1::s.map Prod.fst)) (y:=q.2 q.1) (R:=fun j=>Vm.det vs (p.map Prod.fst++j::s.map Prod.fst)) hd (h.red.ne q hq) (fun j=>(hl j).symm)
 exact⟨t,t1,by rw [hm];exact t2,t3⟩
theorem QjV.le {m:Nat}{vs:List Vec}{rs:Piv}(h:QjV vs rs)(hv:∀v∈vs,∀j,(v j).natAbs≤m){q:Nat×Vec}(hq:q∈rs)(j:Nat):(q.2 j).natAbs≤fac vs.length*m ^ vs.length:=by
 obtain⟨p,s,e⟩:=QpN hq
 obtain⟨t,t1,_,t3⟩:=h.cram e
 refine QU (Qmv t1) ?_
 rw [←t3 j]
 refine QpI vs _ hv ?_
 rw [h.len,e];simp
theorem QoO (x:Vec):∀(cs:List Nat) (f:List Nat→Int),(∀c∈cs,x c=0)→dexp f x cs=0
 | [],_,_=>rfl
 | c::cs,f,h=>by
  rw [dexp,h c Q6,QoO x cs _ fun d hd=>h d (Qag _ hd)];simp
theorem QsK (x:Vec)(a:Nat)(s:List Nat)(hs:∀c∈s,x c=0):∀(p:List Nat) (f:List Nat→Int),(∀c∈p,x c=0)→dexp f x (p++a::s)=sg p*(x a*f (p++s))
 | [],f,_=>by
  show x a*f s-dexp (fun l=>f (a::l)) x s=_
  rw [QoO x s _ hs];simp [sg]
 | c::p,f,h=>by
  show x c*f (p++a::s)-dexp (fun l=>f (c::l)) x (p++a::s)=_
  rw [h c Q6,QsK x a s hs p _ fun d hd=>h d (Qag _ hd)]
  simp [sg,Int.neg_mul]
theorem Qtl (a b:Int)(x y:Vec):∀(cs:List Nat) (f:List Nat→Int),dexp f (fun j=>a*x j+b*y j) cs=a*dexp f x cs+b*dexp f y cs
 | [],f=>by simp [dexp]
 | c::cs,f=>by
  rw [dexp,dexp,dexp,Qtl a b x y cs]
  rw [Int.add_mul,QkL,QkL,Qba,Qba]
  omega
theorem QjV.nil {vs:List Vec}{rs:Piv}(h:QjV vs rs)(q:Nat){x:Vec}(hx:Qaf (rs.map Prod.snd) x):dexp (Vm.det vs) x (q::rs.map Prod.fst)=0:=by
 induction hx with
 | zero=>exact QoO _ _ _ fun _ _=>rfl
 | lin a b x y _ _ h1 h2=>rw [Qtl,h1,h2];simp
 | mem v hv=>
  obtain⟨u,hu,rfl⟩:=Qp.1 hv
  obtain⟨p,s,e⟩:=QpN hu
  obtain⟨t,t1,t2,t3⟩:=h.cram e
  have hm:rs.map Prod.fst=p.map Prod.fst++u.1::s.map Prod.fst:=by rw [e];simp
  have z:∀c,c∈p.map Prod.fst∨c∈s.map Prod.fst→u.2 c=0:=fun c hc=>by
   have nd:=h.red.nd
   rw [hm]at nd
   obtain⟨w,hw,rfl⟩:∃w∈rs,w.1=c:=by
    rcases hc with hc | hc<;>(obtain⟨w,hw,rfl⟩:=Qp.1 hc;exact⟨w,by rw [e];simp [hw],rfl⟩)
   refine h.red.zr u hu w hw fun e2=>?_
   rw [List.nodup_append]at nd
   obtain⟨n1,n2,n3⟩:=nd
   rw [QcB]at n2
   rcases hc with hc | hc
   ·exact n3 w.1 hc u.1 Q6 e2
   rw [e2]at hc;exact n2.1 hc
  rw [dexp,hm,QsK u.2 u.1 (s.map Prod.fst) (fun c hc=>z c (.inr hc)) (p.map Prod.fst) _ (fun c hc=>z c (.inl hc)),←hm,t2]
  have hq:Vm.det vs (q::(p.map Prod.fst++s.map Prod.fst))=sg (p.map Prod.fst)*(t*u.2 q):=by
   rw [←t3 q,QeG.front _ (Qoc vs) q]
   rcases Qx1 (p.map Prod.fst)with h1 | h1<;>rw [h1]<;>simp
  rw [hq]
  rcases Qx1 (p.map Prod.fst)with h1 | h1<;>rw [h1]<;>simp only [Int.one_mul,Int.neg_mul,Int.mul_neg,Int.neg_neg]
  ·rw [QhR (u.2 q),QfG t,QfG (u.2 q) t];omega
  rw [QhR (u.2 q),QfG t,QfG (u.2 q) t];omega
theorem QjV.add {vs:List Vec}{rs:Piv}(h:QjV vs rs){v y:Vec}{q:Nat}{al be:Int}(ha:al≠0)(hb:be≠0)(hs:Qaf (rs.map Prod.snd) fun j=>al*v j-be*y j)(hz:∀u∈rs,y u.1=0)(hq:y q≠0)(hp:QjU y)
  (up:Nat×Vec→Vec) (hu:∀u∈rs,QjU (up u)∧up u q=0∧∃g b c:Int,g≠0∧b≠0∧∀j,g*up u j=b*u.2 j-c*y j):QjV (v::vs) ((q,y)::rs.map fun u=>(u.1,up u)):=by
 have hf:(rs.map fun u=>(u.1,up u)).map Prod.fst=rs.map Prod.fst:=by simp
 have hqn:q ∉ rs.map Prod.fst:=fun hm=>by
  obtain⟨u,hu1,rfl⟩:=Qp.1 hm
  exact hq (hz u hu1)
 have at_:∀u∈rs,∀w∈rs,w.1≠u.1→up u w.1=0:=fun u hu1 w hw hne=>by
  obtain⟨_,_,g,b,c,hg,hb,he⟩:=hu u hu1
  have:=he w.1
  rw [h.red.zr u hu1 w hw hne,hz w hw]at this
  rw [Qc1,Qc1,Int.sub_zero]at this
  exact(Qdm.1 this).resolve_left hg
 have own:∀u∈rs,up u u.1≠0:=fun u hu1 e=>by
  obtain⟨_,_,g,b,c,hg,hb,he⟩:=hu u hu1
  have:=he u.1
  rw [hz u hu1,e]at this
  rw [Qc1,Qc1,Int.sub_zero]at this
  rcases Qdm.1 this.symm with h1 | h1
  ·exact hb h1
  exact h.red.ne u hu1 h1
 have red:Red ((q,y)::rs.map fun u=>(u.1,up u)):=by
  refine⟨?_,?_,?_⟩
  ·rw [Qat,hf,QcB];exact⟨hqn,h.red.nd⟩
  ·intro u hm
   rcases QY.1 hm with rfl | hm
   ·exact hq
   obtain⟨w,hw,rfl⟩:=Qp.1 hm
   exact own w hw
  intro u hm w hm2 hne
  rcases QY.1 hm with rfl | hm
  ·rcases QY.1 hm2 with rfl | hm2
   ·exact absurd rfl hne
   obtain⟨x,hx,rfl⟩:=Qp.1 hm2
   exact hz x hx
  obtain⟨x,hx,rfl⟩:=Qp.1 hm
  rcases QY.1 hm2 with rfl | hm2
  ·exact(hu x hx).2.1
  obtain⟨z,hz2,rfl⟩:=Qp.1 hm2
  exact at_ x hx z hz2 hne
 have my:Qz (((q,y)::rs.map fun u=>(u.1,up u)).map Prod.snd) y:=.of (.mem _ (by simp))
 have old:∀r∈rs.map Prod.snd,Qz (((q,y)::rs.map fun u=>(u.1,up u)).map Prod.snd) r:=fun r hr=>by
  obtain⟨u,hu1,rfl⟩:=Qp.1 hr
  obtain⟨_,_,g,b,c,hg,hb,he⟩:=hu u hu1
  refine Qz.div hb ?_
  have mu:Qz (((q,y)::rs.map fun u=>(u.1,up u)).map Prod.snd) (up u):=.of (.mem _ (by
   rw [Qat,Qcj]
   exact Qag _ (Qp.2 ⟨u,hu1,rfl⟩)))
  have:=Qz.lin g c mu my
  have e:(fun j=>b*u.2 j)=fun j=>g*up u j+c*y j:=by
   funext j;rw [he j];omega
  rw [e];exact this
 refine⟨red,?_,?_,?_,by simp [h.len]⟩
 ·intro u hm
  rcases QY.1 hm with rfl | hm
  ·exact hp
  obtain⟨w,hw,rfl⟩:=Qp.1 hm
  exact(hu w hw).1
 ·intro w hw
  rcases QY.1 hw with rfl | hw
  ·refine Qz.div ha ?_
   have:=Qz.lin 1 be (Qz.trans hs old) my
   have e:(fun j=>al*w j)=fun j=>1*(al*w j-be*y j)+be*y j:=by funext j;omega
   rw [e];exact this
  exact(h.spn w hw).transQ old
 rw [Qat,hf]
 show dexp (Vm.det vs) v (q::rs.map Prod.fst)≠0
 have h1:=h.nil q hs
 have e:(fun j=>al*v j-be*y j)=fun j=>al*v j+(-be)*y j:=by funext j;rw [Int.neg_mul];rfl
 rw [e,Qtl]at h1
 have h2:dexp (Vm.det vs) y (q::rs.map Prod.fst)=y q*Vm.det vs (rs.map Prod.fst):=by
  rw [dexp,QoO y (rs.map Prod.fst) _ fun c hc=>by
   obtain⟨u,hu1,rfl⟩:=Qp.1 hc
   exact hz u hu1]
  omega
 rw [h2]at h1
 intro h3
 rw [h3,Qc1,Int.zero_add,Int.neg_mul]at h1
 rcases Qdm.1 (Int.neg_eq_zero.1 h1)with h1 | h1
 ·exact hb h1
 rcases Qdm.1 h1 with h1 | h1
 ·exact hq h1
 exact h.det h1
theorem QjV.mid {m B:Nat}{vs:List Vec}{rs:Piv}(h:QjV vs rs)(hB:fac vs.length*m ^ vs.length≤B)(hv:∀v∈vs,∀j,(v j).natAbs≤m){v w:Vec}(hm:∀j,(v j).natAbs≤m){al be:Int}(ha:al≠0)(hb:be≠0){S:Piv}(hS:∀u∈S,u∈rs)(hn:(S.map Prod.fst).Nodup)
  (hs:Qaf (S.map Prod.snd) fun j=>al*v j-be*w j) (hz:∀u∈S,w u.1=0) (hp:QjU w) (j:Nat):(w j).natAbs≤(S.length+1)*(m*B):=by
 have rS:Red S:=⟨hn,fun u hu=>h.red.ne u (hS u hu),fun u hu x hx=>h.red.zr u (hS u hu) x (hS x hx)⟩
 obtain⟨c,hc⟩:=hs.comb hn
 have hci:∀u∈S,al*v u.1=c u.1*u.2 u.1:=fun u hu=>by
  have:=hc u.1
  rw [QuH rS c hu,hz u hu]at this
  omega
 have key:∀T:Piv,(∀u∈T,u∈S)→∃W:Vec,∀j,Vm.det vs (rs.map Prod.fst)*comb c T j=al*W j∧(W j).natAbs≤T.length*(m*B):=by
  intro T
  induction T with
  | nil=>intro _;exact⟨fun _=>0,fun j=>⟨by simp [comb],by simp⟩⟩
  | cons u T ih=>
   intro hT
   obtain⟨W,hW⟩:=ih fun x hx=>hT x (Qag _ hx)
   have hu:=hT u Q6
   obtain⟨p,s,e⟩:=QpN (hS u hu)
   obtain⟨t,t1,t2,t3⟩:=h.cram e
   refine⟨fun j=>v u.1*(t*u.2 j)+W j,fun j=>⟨?_,?_⟩⟩
   ·have e1:comb c (u::T) j=c u.1*u.2 j+comb c T j:=by simp [comb]
    rw [e1,Int.mul_add,Int.mul_add,(hW j).1]
    congr 1
    rw [t2]
    have:=hci u hu
    have e2:u.2 u.1*t*(c u.1*u.2 j)=c u.1*u.2 u.1*(t*u.2 j):=by
     simp [Qba,QfG,QhR]
    rw [e2,←this,Qba]
   have h1:(t*u.2 j).natAbs≤B:=by
    rw [←t3 j]
    exact QU (QpI vs _ hv (by rw [h.len,e];simp)) hB
   have h2:(v u.1*(t*u.2 j)).natAbs≤m*B:=by rw [Qd5];exact QkS (hm _) h1
   have h3:=(hW j).2
   have:=Int.natAbs_add_le (v u.1*(t*u.2 j)) (W j)
   rw [Qga,Qb1,Nat.one_mul]
   show(v u.1*(t*u.2 j)+W j).natAbs≤_
   omega
 obtain⟨W,hW⟩:=key S fun u hu=>hu
 have hD:(Vm.det vs (rs.map Prod.fst)).natAbs≤B:=QU (QpI vs _ hv (by rw [h.len];simp)) hB
 obtain⟨t,t1,_,t3⟩:=hp.fits (x:=Vm.det vs (rs.map Prod.fst)*be) (y:=al) (R:=fun j=>Vm.det vs (rs.map Prod.fst)*v j-W j) (QiY h.det hb) ha (fun j=>by
  have h1:=(hW j).1
  rw [←hc j,QkL]at h1
  rw [QkL,←h1]
  have e1:Vm.det vs (rs.map Prod.fst)*(al*v j)=al*(Vm.det vs (rs.map Prod.fst)*v j):=QhR _ _ _
  have e2:Vm.det vs (rs.map Prod.fst)*(be*w j)=Vm.det vs (rs.map Prod.fst)*be*w j:=(Qba _ _ _).symm
  omega)
 refine QU (Qmv t1) ?_
 rw [←t3 j]
 have h1:(Vm.det vs (rs.map Prod.fst)*v j).natAbs≤m*B:=by
  rw [Qd5,Qiq m B];exact QkS hD (hm j)
 have h2:=(hW j).2
 have:=Int.natAbs_sub_le (Vm.det vs (rs.map Prod.fst)*v j) (W j)
 rw [Qb1,Nat.one_mul]
 omega
theorem Qz.keep {rs:Piv}{y:Vec}{q:Nat}{up:Nat×Vec→Vec}(hu:∀u∈rs,∃g b c:Int,b≠0∧∀j,g*up u j=b*u.2 j-c*y j){x:Vec}(hx:Qz (rs.map Prod.snd) x):Qz (((q,y)::rs.map fun u=>(u.1,up u)).map Prod.snd) x:=
 hx.transQ fun r hr=>by
  obtain⟨u,hu1,rfl⟩:=Qp.1 hr
  obtain⟨g,b,c,hb,he⟩:=hu u hu1
  refine Qz.div hb ?_
  have my:Qz (((q,y)::rs.map fun u=>(u.1,up u)).map Prod.snd) y:=.of (.mem _ (by simp))
  have mu:Qz (((q,y)::rs.map fun u=>(u.1,up u)).map Prod.snd) (up u):=.of (.mem _ (by
   rw [Qat,Qcj]
   exact Qag _ (Qp.2 ⟨u,hu1,rfl⟩)))
  have:=Qz.lin g c mu my
  have e:(fun j=>b*u.2 j)=fun j=>g*up u j+c*y j:=by
   funext j;rw [he j];omega
  rw [e];exact this
theorem Qz.sub {vs ws:List Vec}(h:∀v∈vs,v∈ws){x:Vec}(hx:Qz vs x):Qz ws x:=hx.transQ fun v hv=>.of (.mem v (h v hv))
end Go.Vm
noncomputable section
namespace Go.Proofs
open Go Go.RowKit Go.Vm
def Sm (n:Int):Prop:=n.natAbs≤9223372036854775807
theorem Sm.w {n:Int}(h:Sm n):w64 n=n:=Qac (by unfold Sm at h;omega)
theorem Qwa : ∀(n:Nat) (a b:Int),b.natAbs=n→Sm a→Sm b→∃g,Qq (fun st=>QeJ st.1 st.2) (a,b)=some g∧g.natAbs=Nat.gcd a.natAbs b.natAbs:=by
 intro n
 induction n using Nat.strongRecOn with
 | ind n ih=>
  intro a b hb sa sb
  rw [QbY]
  show ∃g,(QeJ a b).bind _=some g∧_
  unfold QeJ
  by_cases h0:b=0
  ·subst h0
   rw [show((0:Int) != 0)=false from rfl]
   exact⟨a,rfl,by simp⟩
  have e:(b != 0)=true:=by simpa using h0
  rw [e,cond_true,QdQ rfl,Qh]
  have hm:(Int.tmod a b).natAbs=a.natAbs % b.natAbs:=Int.natAbs_tmod a b
  have hlt:a.natAbs % b.natAbs<b.natAbs:=Nat.mod_lt _ (QkM.2 h0)
  obtain⟨g,h1,h2⟩:=ih (Int.tmod a b).natAbs (by omega) b (Int.tmod a b) rfl sb (by unfold Sm at *;omega)
  refine⟨g,h1,?_⟩
  rw [h2,hm,Nat.gcd_comm,←Nat.gcd_rec,Nat.gcd_comm]
theorem Qwb {a b:Int}(ha:Sm a)(hb:Sm b):QhF a b=some (Nat.gcd a.natAbs b.natAbs:Int):=by
 unfold QhF
 obtain⟨g,h1,h2⟩:=Qwa _ a b rfl ha hb
 rw [h1,Qh]
 unfold Qlx
 have hg:g.natAbs≤9223372036854775807:=by
  rw [h2]
  rcases Nat.eq_zero_or_pos b.natAbs with h0 | h0
  ·rw [h0,Nat.gcd_zero_right];exact ha
  exact QU (QkR h0 (Nat.gcd_dvd_right _ _)) hb
 rw [Qac (by omega)]
 congr 1
 unfold max2
 split<;>omega
def Qai (row:List Int):Nat:=row.foldl (fun d x=>Nat.gcd d x.natAbs) 0
theorem Qqm (row:List Int):∀x∈row,Qai row ∣ x.natAbs:=by
 have key:∀(row:List Int) (d:Nat),(row.foldl (fun d x=>Nat.gcd d x.natAbs) d ∣ d)∧∀x∈row,row.foldl (fun d x=>Nat.gcd d x.natAbs) d ∣ x.natAbs:=by
  intro row
  induction row with
  | nil=>intro d;exact⟨Nat.dvd_refl _,fun x h=>by cases h⟩
  | cons y row ih=>
   intro d
   obtain⟨h1,h2⟩:=ih (Nat.gcd d y.natAbs)
   refine⟨Nat.dvd_trans h1 (QpQ _ _),fun x hx=>?_⟩
   rcases QY.1 hx with rfl | hx
   ·exact Nat.dvd_trans h1 (Nat.gcd_dvd_right _ _)
   exact h2 x hx
 exact(key row 0).2
theorem Qwc {row:List Int}{k:Nat}(h:∀x∈row,k ∣ x.natAbs):k ∣ Qai row:=by
 have key:∀(row:List Int) (d:Nat),k ∣ d→(∀x∈row,k ∣ x.natAbs)→k ∣ row.foldl (fun d x=>Nat.gcd d x.natAbs) d:=by
  intro row
  induction row with
  | nil=>intro d hd _;exact hd
  | cons y row ih=>intro d hd h;exact ih _ (Nat.dvd_gcd hd (h y Q6)) fun x hx=>h x (Qag _ hx)
 exact key row 0 (Nat.dvd_zero _) h
def Qad (row:List Int):List Int:=if Qai row=0 then row else row.map fun x=>Int.tdiv x (Qai row)
def Qxq (row:List Int):Prop:=∀x∈row,Sm x
theorem Qu2 {row:List Int}{i:Nat}{x:Int}(h:row[i]? = some x):Qai (row.take (i+1))=Nat.gcd (Qai (row.take i)) x.natAbs:=by
 rw [QfH,h];simp [Qai]
theorem QwI {row:List Int}(h:Qxq row):Qai row≤9223372036854775807:=by
 by_cases h0:∃x∈row,x≠0
 ·obtain⟨x,hx,hne⟩:=h0
  exact QU (QkR (QkM.2 hne) (Qqm row x hx)) (h x hx)
 have:0 ∣ Qai row:=Qwc fun x hx=>by
  have:x=0:=by
   cases Decidable.em (x=0)with
   | inl e=>exact e
   | inr e=>exact absurd ⟨x,hx,e⟩ h0
  rw [this];exact Nat.dvd_refl 0
 rw [Nat.eq_zero_of_zero_dvd this];omega
theorem Qt9 {row:List Int}(h:Qxq row)(hl:row.length≤4000000):Qd8 row=some (Qad row):=by
 unfold Qd8
 have mx:(4000000:Nat)≤maxLen:=by decide
 have h1:=QbB (body:=fun st:Int×Int=>Qce row st.1 st.2) row.length (fun i s=>s=((i:Int),(Qai (row.take i):Int))) (fun r=>r=(Qai row:Int)) (fun i s hi hs=>by
  subst hs
  left
  have hx:row[i]? = some row[i]:=QD hi
  show ∃s',Qce row (i:Int) (Qai (row.take i):Int)=_∧_
  unfold Qce
  have hs2:Sm (Qai (row.take i):Int):=by
   have:=QwI (row:=row.take i) fun x hx=>h x (Qgf hx)
   unfold Sm;omega
  rw [Qaa (show(i:Int)<(row.length:Int) by omega),cond_true,QB,hx,Qh,Qwb hs2 (h _ (Qbb hi)),Qh]
  refine⟨_,rfl,?_⟩
  rw [Qx hi (by omega),Qu2 hx];simp) (fun s hs=>by
  subst hs
  refine⟨_,?_,rfl⟩
  show Qce row (row.length:Int) (Qai (row.take row.length):Int)=_
  unfold Qce
  rw [Q9 (by omega),QlQ];rfl) (0,0) (by simp [Qai])
 obtain⟨r,hr,rfl⟩:=h1
 rw [hr,Qh]
 unfold QiE Qad
 by_cases h0:Qai row=0
 ·rw [h0,if_pos rfl];rfl
 have e:((Qai row:Int)==0)=false:=by simpa using h0
 rw [e,cond_false,if_neg h0]
 unfold QfW
 rw [QdQ (by simp;omega),Qh]
 have h2:=QbB (body:=fun st:Int×List Int=>QaJ row (Qai row:Int) st.1 st.2) row.length (fun i s=>s=((i:Int),(row.take i).map (fun x=>Int.tdiv x (Qai row))++List.replicate (row.length-i) 0)) (fun r=>r=row.map fun x=>Int.tdiv x (Qai row)) (fun i s hi hs=>by
  subst hs
  left
  have hx:row[i]? = some row[i]:=QD hi
  show ∃s',QaJ row (Qai row:Int) (i:Int) _=_∧_
  unfold QaJ QjI
  have ln:((row.take i).map fun x=>Int.tdiv x (Qai row)).length=i:=by simp;omega
  have hr2:List.replicate (row.length-i) (0:Int)=0::List.replicate (row.length-(i+1)) 0:=by
   rw [show row.length-i=(row.length-(i+1))+1 by omega];rfl
  have ne:((Qai row:Int) != 0)=true:=by simpa using h0
  rw [Qaa (show(i:Int)<(row.length:Int) by omega),cond_true,QB,hx,Qh,QdQ ne,Qh,Qh,QB,hr2,QbC (by omega),ln,Qir]
  refine⟨_,rfl,?_⟩
  have sm:Sm (Int.tdiv row[i] (Qai row)):=by
   have:=h _ (Qbb hi)
   unfold Sm at *
   rw [QpM]
   exact QU (Nat.div_le_self _ _) this
  rw [Qx hi (by omega),sm.w,QfH,hx]
  rw [Prod.mk.injEq]
  refine⟨rfl,?_⟩
  rw [Qff,QrQ _ _ (by omega),ln,Qir,QkP,Qd6]
  rfl) (fun s hs=>by
  subst hs
  refine⟨_,?_,rfl⟩
  show QaJ row (Qai row:Int) (row.length:Int) _=_
  unfold QaJ
  rw [Q9 (by omega)];simp) (0,List.replicate ((row.length:Int)).toNat 0) (by simp)
 obtain⟨r,hr,rfl⟩:=h2
 rw [hr];rfl
end Go.Proofs
noncomputable section
namespace Go.Proofs
open Go Go.RowKit Go.Vm
def vec (row:List Int):Vec:=fun j=>row.getD j 0
theorem Qfe {row:List Int}{j:Nat}(h:j<row.length):vec row j=row[j]:=by
 unfold vec;rw [Qvn,QD h];rfl
theorem Qb9 {row:List Int}{j:Nat}(h:row.length≤j):vec row j=0:=by
 unfold vec;rw [Qvn,List.getElem?_eq_none h];rfl
theorem QaM {row:List Int}{j:Nat}(h:j<row.length):row[j]? = some (vec row j):=by rw [Qfe h];exact QD h
theorem Qnj {a b:List Int}(hl:a.length=b.length)(h:∀j,vec a j=vec b j):a=b:=by
 refine List.ext_getElem hl fun j h1 h2=>?_
 rw [←Qfe h1,←Qfe h2,h j]
theorem QfY (row:List Int):(Qad row).length=row.length:=by unfold Qad;split<;>simp
theorem Qem (row:List Int):∃c:Nat,0<c∧∀j,vec row j=(c:Int)*vec (Qad row) j:=by
 unfold Qad
 by_cases h:Qai row=0
 ·rw [if_pos h];exact⟨1,by omega,fun j=>by simp⟩
 rw [if_neg h]
 refine⟨Qai row,Qnm h,fun j=>?_⟩
 by_cases hj:j<row.length
 ·rw [Qfe hj,Qfe (by simpa using hj),List.getElem_map]
  have:(Qai row:Int) ∣ row[j]:=Int.natAbs_dvd_natAbs.1 (Qqm row _ (Qbb hj))
  exact(Int.mul_tdiv_cancel' this).symm
 rw [Qb9 (by omega),Qb9 (by simpa using hj)];simp
theorem Qr1 (row:List Int)(j:Nat):(vec (Qad row) j).natAbs≤(vec row j).natAbs:=by
 obtain⟨c,hc,h⟩:=Qem row
 rw [h j]
 exact Qmv (by omega)
theorem QkI {row:List Int}(h:∃j,vec row j≠0):QjU (vec (Qad row)):=by
 intro d hd
 have hg:Qai row≠0:=fun e=>by
  obtain⟨j,hj⟩:=h
  by_cases hlt:j<row.length
  ·rw [Qfe hlt]at hj
   have:=Qqm row _ (Qbb hlt)
   rw [e]at this
   exact hj (Int.natAbs_eq_zero.1 (Nat.eq_zero_of_zero_dvd this))
  exact hj (Qb9 (by omega))
 have h1:∀x∈row,Qai row*d ∣ x.natAbs:=fun x hx=>by
  obtain⟨j,hj,rfl⟩:=Qm1.1 hx
  have h2:=hd j
  have e:vec (Qad row) j=Int.tdiv row[j] (Qai row):=by
   unfold Qad
   rw [if_neg hg,Qfe (by simpa using hj),List.getElem_map]
  rw [e,QpM]at h2
  have h3:(Int.natAbs (Qai row:Int))=Qai row:=rfl
  rw [h3]at h2
  obtain⟨k,hk⟩:=h2
  obtain⟨l,hl⟩:=Qqm row _ (Qbb hj)
  refine⟨k,?_⟩
  have hk:Qai row*l / Qai row=d*k:=by rw [←hl];exact hk
  rw [Qnl _ (Qnm hg)]at hk
  rw [hl,hk,Nat.mul_assoc]
 obtain⟨k,hk⟩:=Qwc h1
 have h2:Qai row*1=Qai row*(d*k):=by rw [Nat.mul_one,←Nat.mul_assoc];exact hk
 have h3:=Nat.eq_of_mul_eq_mul_left (Qnm hg) h2
 exact Nat.eq_one_of_mul_eq_one_right h3.symm
def Qen (n:Nat)(row by_:List Int)(k:Nat):List Int:=(List.range n).map fun j=>vec row j*vec by_ k-vec by_ j*vec row k
def Q5 (n:Nat)(row by_:List Int)(k:Nat):List Int:=if vec row k=0 then row else Qad (Qen n row by_ k)
theorem QdJ (n:Nat)(row by_:List Int)(k:Nat):(Qen n row by_ k).length=n:=by simp [Qen]
theorem Qqn {n:Nat}{row by_:List Int}{k:Nat}(h:row.length=n):(Q5 n row by_ k).length=n:=by
 unfold Q5;split
 ·exact h
 rw [QfY,QdJ]
theorem QiW {n:Nat}{row by_:List Int}{k:Nat}(hr:row.length=n)(hb:by_.length=n)(j:Nat):vec (Qen n row by_ k) j=vec row j*vec by_ k-vec by_ j*vec row k:=by
 by_cases hj:j<n
 ·rw [Qfe (by rw [QdJ];exact hj)];simp [Qen]
 rw [Qb9 (by rw [QdJ];omega),Qb9 (row:=row) (j:=j) (by omega),Qb9 (row:=by_) (j:=j) (by omega)];simp
theorem Qwd {n k:Nat}{row by_:List Int}(hr:row.length=n)(hb:by_.length=n)(hk:k<n)(hn:n≤4000000)
  (h1:∀j,(vec row j*vec by_ k).natAbs≤4611686018427387903) (h2:∀j,(vec by_ j*vec row k).natAbs≤4611686018427387903):Qak (n:Int) row by_ (k:Int)=some (Q5 n row by_ k):=by
 have mx:(4000000:Nat)≤maxLen:=by decide
 unfold Qak Q5
 rw [QB,QaM (by omega),Qh]
 by_cases h0:vec row k=0
 ·rw [h0,if_pos rfl];rfl
 have e:(vec row k==0)=false:=by simpa using h0
 rw [e,cond_false,if_neg h0,QdQ (by simp;omega),Qh]
 have h:=QbB (body:=fun st:Int×List Int=>Qa3 (n:Int) row by_ (k:Int) st.1 st.2) n (fun i s=>s=((i:Int),(Qen n row by_ k).take i++List.replicate (n-i) 0)) (fun r=>r=Qen n row by_ k) (fun i s hi hs=>by
  subst hs
  left
  show ∃s',Qa3 (n:Int) row by_ (k:Int) (i:Int) _=_∧_
  unfold Qa3
  have ln:((Qen n row by_ k).take i).length=i:=by rw [QdK,QdJ];omega
  have hr2:List.replicate (n-i) (0:Int)=0::List.replicate (n-(i+1)) 0:=by
   rw [show n-i=(n-(i+1))+1 by omega];rfl
  rw [Qaa (show(i:Int)<((List.replicate (n:Int).toNat (0:Int)).length:Int) by simp;omega),cond_true,QB,QaM (row:=row) (by omega),Qh,QB,QaM (row:=by_) (by omega),Qh,QB,QaM (row:=by_) (by omega),Qh,QB,QaM (row:=row) (by omega),Qh,QB,hr2,QbC (by omega),ln,Qir]
  refine⟨_,rfl,?_⟩
  have b1:=h1 i
  have b2:=h2 i
  have e1:w64 (vec row i*vec by_ k)=vec row i*vec by_ k:=Qac (by omega)
  have e2:w64 (vec by_ i*vec row k)=vec by_ i*vec row k:=Qac (by omega)
  have e3:w64 (vec row i*vec by_ k-vec by_ i*vec row k)=vec (Qen n row by_ k) i:=by rw [QiW hr hb,Qac (by omega)]
  have tk:(Qen n row by_ k).take (i+1)=(Qen n row by_ k).take i++[vec (Qen n row by_ k) i]:=by
   rw [QfH,QaM (by rw [QdJ];exact hi)];rfl
  rw [Qx hi (by omega),e1,e2,e3,Qff,QrQ _ _ (by omega),ln,Qir,tk,Qd6]
  rfl) (fun s hs=>by
  subst hs
  refine⟨_,?_,rfl⟩
  show Qa3 (n:Int) row by_ (k:Int) (n:Int) _=_
  unfold Qa3
  rw [Q9 (by simp),Qgg (by rw [QdJ];omega)];simp) (0,List.replicate (n:Int).toNat 0) (by simp)
 obtain⟨r,hr',rfl⟩:=h
 rw [hr',Qh]
 unfold Qfx
 rw [Qt9 (fun x hx=>by
  obtain⟨j,hj,rfl⟩:=Qm1.1 hx
  have:=QiW (k:=k) hr hb j
  rw [Qfe hj]at this
  rw [this]
  have b1:=h1 j
  have b2:=h2 j
  unfold Sm;omega) (by rw [QdJ];exact hn)]
 rfl
theorem QpJ {n k:Nat}{row by_:List Int}(hr:row.length=n)(hb:by_.length=n)(h0:vec row k≠0):∃c:Nat,0<c∧∀j,(c:Int)*vec (Q5 n row by_ k) j=vec by_ k*vec row j-vec row k*vec by_ j:=by
 unfold Q5
 rw [if_neg h0]
 obtain⟨c,hc,h⟩:=Qem (Qen n row by_ k)
 refine⟨c,hc,fun j=>?_⟩
 rw [←h j,QiW hr hb,QfG (vec row j),QfG (vec by_ j)]
theorem QzY {n k:Nat}{row by_:List Int}(hr:row.length=n)(hb:by_.length=n)(j:Nat)(h0:vec row k≠0):(vec (Q5 n row by_ k) j).natAbs≤(vec row j*vec by_ k-vec by_ j*vec row k).natAbs:=by
 unfold Q5
 rw [if_neg h0,←QiW hr hb]
 exact Qr1 _ j
theorem Qtm {n k:Nat}{row by_:List Int}(h:QjU (vec row)∨∀j,vec row j=0):QjU (vec (Q5 n row by_ k))∨∀j,vec (Q5 n row by_ k) j=0:=by
 unfold Q5
 split
 ·exact h
 by_cases hz:∃j,vec (Qen n row by_ k) j≠0
 ·exact .inl (QkI hz)
 right;intro j
 have h1:vec (Qen n row by_ k) j=0:=by
  cases Decidable.em (vec (Qen n row by_ k) j=0)with
  | inl e=>exact e
  | inr e=>exact absurd ⟨j,e⟩ hz
 have h2:=Qr1 (Qen n row by_ k) j
 rw [h1]at h2
 exact Int.natAbs_eq_zero.1 (by simpa using h2)
end Go.Proofs
noncomputable section
namespace Go.Proofs
open Go Go.RowKit Go.Vm
theorem Qmn : ∀(n:Nat) {l:List Nat},l.Nodup→(∀x∈l,x<n)→l.length≤n
 | 0,l,_,h=>by
  cases l with
  | nil=>exact Qa4 _
  | cons x l=>exact absurd (h x Q6) (by omega)
 | n+1,l,hn,h=>by
  by_cases hm:n∈l
  ·have h1:=Qmn n (hn.erase n) fun x hx=>by
    have h2:=h x (List.mem_of_mem_erase hx)
    have h3:x≠n:=fun e=>by subst e;exact(List.Nodup.not_mem_erase hn) hx
    omega
   rw [List.length_erase_of_mem hm]at h1
   omega
  have h1:=Qmn n hn fun x hx=>by
   have h2:=h x hx
   have h3:x≠n:=fun e=>hm (e▸hx)
   omega
  omega
abbrev QO : Type:=List (Int×List Int)
def pv (q:Int×List Int):Nat×Vec:=(q.1.toNat,vec q.2)
structure Slv (n:Nat) (vs:List Vec) (m:QO):Prop where
 keys:∀q∈m,q.1=(q.1.toNat:Int)∧q.1.toNat<n∧q.2.length=n∧∀j,j<q.1.toNat→vec q.2 j=0
 nd:((m.map pv).map Prod.fst).Nodup
 sys:∃rs,QjV vs rs∧rs.Perm (m.map pv)
 mag:∀v∈vs,∀j,(v j).natAbs≤4
section
variable {n:Nat}{vs:List Vec}{m:QO}
theorem Slv.len (h:Slv n vs m):m.length≤n:=by
 have:=Qmn n h.nd fun x hx=>by
  obtain⟨u,hu,rfl⟩:=Qp.1 hx
  obtain⟨q,hq,rfl⟩:=Qp.1 hu
  exact(h.keys q hq).2.1
 simpa using this
theorem Slv.red (h:Slv n vs m):Red (m.map pv):=by
 obtain⟨rs,hs,hp⟩:=h.sys
 exact⟨h.nd,fun q hq=>hs.red.ne q (hp.mem_iff.2 hq),fun q hq p hp2=>hs.red.zr q (hp.mem_iff.2 hq) p (hp.mem_iff.2 hp2)⟩
theorem Slv.prim (h:Slv n vs m){q:Int×List Int}(hq:q∈m):QjU (vec q.2):=by
 obtain⟨rs,hs,hp⟩:=h.sys
 exact hs.prim (pv q) (hp.mem_iff.2 (Qp.2 ⟨q,hq,rfl⟩))
theorem Slv.vlen (h:Slv n vs m):vs.length=m.length:=by
 obtain⟨rs,hs,hp⟩:=h.sys
 rw [hs.len,hp.length_eq];simp
theorem Slv.unit (h:Slv n vs m)(h8:m.length=n){q:Int×List Int}(hq:q∈m):(vec q.2 q.1.toNat).natAbs=1∧∀j,j≠q.1.toNat→vec q.2 j=0:=by
 have hz:∀j,j≠q.1.toNat→vec q.2 j=0:=fun j hj=>by
  by_cases hn:j<n
  ·by_cases hm:j∈(m.map pv).map Prod.fst
   ·obtain⟨u,hu,rfl⟩:=Qp.1 hm
    exact h.red.zr (pv q) (Qp.2 ⟨q,hq,rfl⟩) u hu hj
   have h1:(j::(m.map pv).map Prod.fst).Nodup:=QcB.2 ⟨hm,h.nd⟩
   have h2:=Qmn n h1 fun x hx=>by
    rcases QY.1 hx with rfl | hx
    ·exact hn
    obtain⟨u,hu,rfl⟩:=Qp.1 hx
    obtain⟨w,hw,rfl⟩:=Qp.1 hu
    exact(h.keys w hw).2.1
   simp at h2;omega
  exact Qb9 (by rw [(h.keys q hq).2.2.1];omega)
 refine⟨h.prim hq _ fun j=>?_,hz⟩
 by_cases e:j=q.1.toNat
 ·rw [e];exact Nat.dvd_refl _
 rw [hz j e];exact Nat.dvd_zero _
theorem Qx2 {k:Nat}(h:k≤7):fac k*4 ^ k≤82575360:=by
 have:∀k,k<8→fac k*4 ^ k≤82575360:=by decide
 exact this k (by omega)
theorem Slv.le (h:Slv n vs m)(hn:n≤8){q:Int×List Int}(hq:q∈m)(j:Nat):(vec q.2 j).natAbs≤82575360:=by
 by_cases h7:m.length≤7
 ·obtain⟨rs,hs,hp⟩:=h.sys
  have:=hs.le h.mag (hp.mem_iff.2 (Qp.2 ⟨q,hq,rfl⟩)) j
  exact QU this (by rw [h.vlen];exact Qx2 h7)
 have h1:=h.len
 obtain⟨u1,u2⟩:=h.unit (by omega) hq
 by_cases e:j=q.1.toNat
 ·rw [e,u1];omega
 rw [u2 j e];simp
def Qdb (v:Vec)(S:QO):Int:=S.foldr (fun q a=>(if v q.1.toNat=0 then 1 else vec q.2 q.1.toNat)*a) 1
theorem Qu3 (v:Vec){S T:QO}(h:S.Perm T):Qdb v S=Qdb v T:=by
 induction h with
 | nil=>rfl
 | cons x _ ih=>show _*Qdb v _=_*Qdb v _;rw [ih]
 | swap x y l=>show _*(_*Qdb v l)=_*(_*Qdb v l);rw [QhR]
 | trans _ _ h1 h2=>rw [h1,h2]
theorem QrI (v:Vec)(q:Int×List Int):∀S:QO,Qdb v (S++[q])=(if v q.1.toNat=0 then 1 else vec q.2 q.1.toNat)*Qdb v S
 | []=>rfl
 | x::S=>by
  show _*Qdb v (S++[q])=_*(_*Qdb v S)
  rw [QrI v q S,QhR]
theorem Qaf.at {vs:List Vec}{x:Vec}(h:Qaf vs x){p:Nat}(hz:∀v∈vs,v p=0):x p=0:=by
 induction h with
 | zero=>rfl
 | mem v hv=>exact hz v hv
 | lin a b x y _ _ h1 h2=>show a*x p+b*y p=0;rw [h1,h2];simp
structure Mid (n:Nat) (m:QO) (v:Vec) (S:QO) (row:List Int):Prop where
 len:row.length=n
 pz:QjU (vec row)∨∀j,vec row j=0
 rel:∃be:Nat,0<be∧Qaf ((S.map pv).map Prod.snd) fun j=>Qdb v S*v j-(be:Int)*vec row j
 zer:∀q∈S,vec row q.1.toNat=0
 four:m.length=n→∀j,(vec row j).natAbs≤4
theorem QpK (h:Slv n vs m)(v:Vec):∀S:QO,(∀q∈S,q∈m)→Qdb v S≠0
 | [],_=>by show(1:Int)≠0;decide
 | x::S,hS=>by
  show _*Qdb v S≠0
  refine QiY ?_ (QpK h v S fun q hq=>hS q (Qag _ hq))
  split
  ·decide
  exact h.red.ne (pv x) (Qp.2 ⟨x,hS x Q6,rfl⟩)
theorem Mid.mag (h:Slv n vs m)(hn:n≤8){v:Vec}(hv:∀j,(v j).natAbs≤4){S:QO}{row:List Int}(hm:Mid n m v S row)(hS:∀q∈S,q∈m)(hnd:((S.map pv).map Prod.fst).Nodup)(j:Nat):(vec row j).natAbs≤2642411520:=by
 rcases hm.pz with hp | hz
 ·by_cases h7:m.length≤7
  ·obtain⟨rs,hs,hperm⟩:=h.sys
   obtain⟨be,hb,hrel⟩:=hm.rel
   have hl:S.length≤7:=by
    have h1:S.length≤m.length:=by
     have sub:∀(A B:QO),((A.map pv).map Prod.fst).Nodup→(∀q∈A,q∈B)→A.length≤B.length:=by
      intro A
      induction A with
      | nil=>intro B _ _;exact Nat.zero_le _
      | cons x A ih=>
       intro B hn hs
       rw [Qat,Qat,QcB]at hn
       obtain⟨p,s,rfl⟩:=QpN (hs x Q6)
       have:=ih (p++s) hn.2 fun q hq=>by
        have h1:=hs q (Qag _ hq)
        rcases Qdo.1 h1 with h1 | h1
        ·exact QlP _ h1
        rcases QY.1 h1 with h1 | h1
        ·exfalso
         exact hn.1 (Qp.2 ⟨pv q,Qp.2 ⟨q,hq,rfl⟩,by rw [h1]⟩)
        exact QrN _ h1
       simp at this ⊢;omega
     exact sub S m hnd hS
    omega
   have:=hs.mid (m:=4) (B:=82575360) (by rw [h.vlen];exact Qx2 h7) h.mag (v:=v) (w:=vec row) hv (al:=Qdb v S) (be:=(be:Int)) (QpK h v S hS) (by omega) (S:=S.map pv) (fun u hu=>by
    obtain⟨q,hq,rfl⟩:=Qp.1 hu
    exact hperm.mem_iff.2 (Qp.2 ⟨q,hS q hq,rfl⟩)) hnd hrel (fun u hu=>by
    obtain⟨q,hq,rfl⟩:=Qp.1 hu
    exact hm.zer q hq) hp j
   rw [Qgb]at this
   refine QU this ?_
   have:(S.length+1)*(4*82575360)≤8*(4*82575360):=Qbl _ (by omega)
   omega
  have h1:=h.len
  have:=hm.four (by omega) j
  omega
 rw [hz j];simp
theorem Mid.start {row:List Int}(hl:row.length=n)(hv:∀j,(vec row j).natAbs≤4):Mid n m (vec row) [] (Qad row):=by
 refine⟨by rw [QfY,hl],?_,?_,(fun q h=>by cases h),fun _ j=>QU (Qr1 row j) (hv j)⟩
 ·by_cases h:∃j,vec row j≠0
  ·exact .inl (QkI h)
  right;intro j
  have h1:vec row j=0:=by
   cases Decidable.em (vec row j=0)with
   | inl e=>exact e
   | inr e=>exact absurd ⟨j,e⟩ h
  have h2:=Qr1 row j
  rw [h1]at h2
  exact Int.natAbs_eq_zero.1 (by simpa using h2)
 obtain⟨c,hc,h⟩:=Qem row
 refine⟨c,hc,?_⟩
 have e:(fun j=>Qdb (vec row) []*vec row j-(c:Int)*vec (Qad row) j)=fun _=>0:=by
  funext j
  rw [←h j]
  show 1*vec row j-vec row j=0
  omega
 rw [e];exact .zero
theorem Mid.step (h:Slv n vs m)(hn:n≤8){v:Vec}(hv:∀j,(v j).natAbs≤4){S:QO}{row:List Int}(hm:Mid n m v S row)(hS:∀q∈S,q∈m)(hnd:((S.map pv).map Prod.fst).Nodup){q:Int×List Int}(hq:q∈m)(hqn:q.1.toNat ∉ (S.map pv).map Prod.fst):
  Qak (n:Int) row q.2 q.1=some (Q5 n row q.2 q.1.toNat)∧Mid n m v (S++[q]) (Q5 n row q.2 q.1.toNat):=by
 obtain⟨k1,k2,k3,k4⟩:=h.keys q hq
 have mg:=hm.mag h hn hv hS hnd
 have ml:=h.le hn hq
 have hcl:Qak (n:Int) row q.2 q.1=some (Q5 n row q.2 q.1.toNat):=by
  have b1:∀a b:Nat,a≤2642411520→b≤82575360→a*b≤4611686018427387903:=fun a b ha hb=>QU (QkS ha hb) (by decide)
  have:=Qwd (k:=q.1.toNat) hm.len k3 k2 (by omega) (fun j=>by rw [Qd5];exact b1 _ _ (mg j) (ml _)) (fun j=>by rw [Qd5,Qiq];exact b1 _ _ (mg _) (ml j))
  rw [←k1]at this
  exact this
 refine⟨hcl,?_⟩
 obtain⟨be,hb,hrel⟩:=hm.rel
 have other:∀u∈(S.map pv).map Prod.snd,u q.1.toNat=0:=fun u hu=>by
  obtain⟨w,hw,rfl⟩:=Qp.1 hu
  obtain⟨x,hx,rfl⟩:=Qp.1 hw
  exact h.red.zr (pv x) (Qp.2 ⟨x,hS x hx,rfl⟩) (pv q) (Qp.2 ⟨q,hq,rfl⟩) fun e=>hqn (Qp.2 ⟨pv x,Qp.2 ⟨x,hx,rfl⟩,e.symm⟩)
 have atq:Qdb v S*v q.1.toNat=(be:Int)*vec row q.1.toNat:=by
  have:=Qaf.at hrel other
  have h2:Qdb v S*v q.1.toNat-(be:Int)*vec row q.1.toNat=0:=this
  omega
 have ups:∀{x},Qaf ((S.map pv).map Prod.snd) x→Qaf (((S++[q]).map pv).map Prod.snd) x:=fun hx=>hx.mono fun u hu=>.mem u (by
  rw [QkP,QkP];exact QlP _ hu)
 by_cases h0:vec row q.1.toNat=0
 ·have hc:Q5 n row q.2 q.1.toNat=row:=by unfold Q5;rw [if_pos h0]
  have hv0:v q.1.toNat=0:=by
   rw [h0,Qc1]at atq
   exact(Qdm.1 atq).resolve_left (QpK h v S hS)
  rw [hc]
  refine⟨hm.len,hm.pz,⟨be,hb,?_⟩,?_,hm.four⟩
  ·rw [QrI,if_pos hv0,Int.one_mul];exact ups hrel
  intro x hx
  rcases Qdo.1 hx with hx | hx
  ·exact hm.zer x hx
  rw [QrP]at hx;rw [hx];exact h0
 have hv0:v q.1.toNat≠0:=fun e=>by
  rw [e,Qc1]at atq
  rcases Qdm.1 atq.symm with h1 | h1
  ·omega
  exact h0 h1
 obtain⟨c,hc,hcr⟩:=QpJ (k:=q.1.toNat) hm.len k3 h0
 have cz:∀j,vec q.2 q.1.toNat*vec row j-vec row q.1.toNat*vec q.2 j=0→vec (Q5 n row q.2 q.1.toNat) j=0:=fun j e=>by
  have:=hcr j
  rw [e]at this
  exact(Qdm.1 this).resolve_left (by omega)
 refine⟨Qqn hm.len,Qtm hm.pz,⟨be*c,Nat.mul_pos hb hc,?_⟩,?_,?_⟩
 ·rw [QrI,if_neg hv0]
  have h1:=Qaf.lin (vec q.2 q.1.toNat) ((be:Int)*vec row q.1.toNat) _ _ (ups hrel) (Qaf.mem (vs:=((S++[q]).map pv).map Prod.snd) (vec q.2) (by simp [pv]))
  have e:(fun j=>vec q.2 q.1.toNat*Qdb v S*v j-((be*c:Nat):Int)*vec (Q5 n row q.2 q.1.toNat) j)=fun j=>vec q.2 q.1.toNat*(Qdb v S*v j-(be:Int)*vec row j)+(be:Int)*vec row q.1.toNat*vec q.2 j:=by
   funext j
   have:=hcr j
   have e1:((be*c:Nat):Int)*vec (Q5 n row q.2 q.1.toNat) j=(be:Int)*((c:Int)*vec (Q5 n row q.2 q.1.toNat) j):=by rw [Int.natCast_mul,Qba]
   rw [e1,this,QkL,QkL,Qba,Qba,QhR (be:Int) (vec q.2 q.1.toNat)]
   omega
  rw [e];exact h1
 ·intro x hx
  refine cz _ ?_
  rcases Qdo.1 hx with hx | hx
  ·rw [hm.zer x hx,h.red.zr (pv q) (Qp.2 ⟨q,hq,rfl⟩) (pv x) (Qp.2 ⟨x,hS x hx,rfl⟩) (fun e=>hqn (Qp.2 ⟨pv x,Qp.2 ⟨x,hx,rfl⟩,e⟩)) |> fun (e:vec q.2 x.1.toNat=0)=>e]
   simp
  rw [QrP]at hx;rw [hx,QfG];omega
 intro h8 j
 obtain⟨u1,u2⟩:=h.unit h8 hq
 refine QU (QzY hm.len k3 j h0) ?_
 by_cases e:j=q.1.toNat
 ·rw [e,QfG,Int.sub_self];simp
 rw [u2 j e]
 have:(vec row j*vec q.2 q.1.toNat-0*vec row q.1.toNat).natAbs=(vec row j).natAbs:=by
  rw [Int.zero_mul,Int.sub_zero,Qd5,u1,Nat.mul_one]
 rw [this];exact hm.four h8 j
end
end Go.Proofs
noncomputable section
namespace Go.Proofs
open Go Go.RowKit Go.Vm
def QiX (n:Nat)(row:List Int)(L:QO):List Int:=L.foldl (fun r q=>Q5 n r q.2 q.1.toNat) row
section
variable {n:Nat}{vs:List Vec}{m:QO}
theorem QzZ (h:Slv n vs m)(hn:n≤8){v:Vec}(hv:∀j,(v j).natAbs≤4):∀(T S:QO) (row:List Int),Mid n m v S row→(∀q∈S++T,q∈m)→(((S++T).map pv).map Prod.fst).Nodup→
  QcF (fun st p=>QaW (n:Int) st p.1 p.2) row T=some (.inl (QiX n row T))∧Mid n m v (S++T) (QiX n row T)
 | [],S,row,hm,_,_=>⟨rfl,by rw [Qoq];exact hm⟩
 | q::T,S,row,hm,hS,hnd=>by
  have hnd2:=hnd
  rw [QkP,QkP,List.nodup_append]at hnd2
  obtain⟨n1,n2,n3⟩:=hnd2
  have hq:q∈m:=hS q (by simp)
  have hqn:q.1.toNat ∉ (S.map pv).map Prod.fst:=fun hh=>n3 _ hh q.1.toNat (by simp [pv]) rfl
  obtain⟨h1,h2⟩:=hm.step h hn hv (fun x hx=>hS x (QlP _ hx)) n1 hq hqn
  have e:S++q::T=(S++[q])++T:=by simp
  obtain⟨h3,h4⟩:=QzZ h hn hv T (S++[q]) _ h2 (by rw [←e];exact hS) (by rw [←e];exact hnd)
  refine⟨?_,by rw [e];exact h4⟩
  rw [QcF]
  show(QaW (n:Int) row q.1 q.2).bind _=_
  unfold QaW
  rw [h1,Qh,Qh]
  exact h3
theorem QwJ {a b:Vec}{x y:Nat}(ha:QjU a)(hb:QjU b)(hx:0<x)(hy:0<y)(h:∀j,(x:Int)*a j=(y:Int)*b j):∀j,a j=b j:=by
 obtain⟨t,t1,t2,t3⟩:=ha.fits (x:=(x:Int)) (y:=(y:Int)) (R:=b) (by omega) (by omega) h
 obtain⟨u,u1,u2,u3⟩:=hb.fits (x:=(y:Int)) (y:=(x:Int)) (R:=a) (by omega) (by omega) (fun j=>(h j).symm)
 have h1:(x:Int)*1=(x:Int)*(u*t):=by
  have:(x:Int)=(x:Int)*u*t:=by rw [←u2];exact t2
  rw [Int.mul_one,←Qba];exact this
 have h2:=Qvl (by omega:(x:Int)≠0) h1
 have ht:0<t:=by
  have:0<(y:Int)*t:=by rw [←t2];omega
  rcases Int.lt_trichotomy t 0 with h3 | h3 | h3
  ·have:(y:Int)*t<0:=Int.mul_neg_of_pos_of_neg (by omega) h3
   omega
  ·exact absurd h3 t1
  exact h3
 have ht1:t=1:=by
  have hu:0<u:=by
   rcases Int.lt_trichotomy u 0 with h3 | h3 | h3
   ·have:=Int.mul_neg_of_neg_of_pos h3 ht;omega
   ·exact absurd h3 u1
   exact h3
  have:1*t≤u*t:=Int.mul_le_mul_of_nonneg_right (by omega) (by omega)
  omega
 intro j
 rw [t3 j,ht1,Int.one_mul]
theorem Mid.uniq (h:Slv n vs m){v:Vec}{A B:QO}(hA:A.Perm m)(hB:B.Perm m){a b:List Int}(ma:Mid n m v A a)(mb:Mid n m v B b):a=b:=by
 refine Qnj (by rw [ma.len,mb.len]) ?_
 obtain⟨x,hx,ra⟩:=ma.rel
 obtain⟨y,hy,rb⟩:=mb.rel
 rw [Qu3 v hA]at ra
 rw [Qu3 v hB]at rb
 have pa:∀{z},Qaf ((A.map pv).map Prod.snd) z→Qaf ((m.map pv).map Prod.snd) z:=fun hz=>hz.mono fun u hu=>.mem u (by
  exact((hA.map pv).map Prod.snd).mem_iff.1 hu)
 have pb:∀{z},Qaf ((B.map pv).map Prod.snd) z→Qaf ((m.map pv).map Prod.snd) z:=fun hz=>hz.mono fun u hu=>.mem u (by
  exact((hB.map pv).map Prod.snd).mem_iff.1 hu)
 have hs:=Qaf.sub 1 1 (pb rb) (pa ra)
 have e:(fun j=>1*(Qdb v m*v j-(y:Int)*vec b j)-1*(Qdb v m*v j-(x:Int)*vec a j))=fun j=>(x:Int)*vec a j-(y:Int)*vec b j:=by funext j;omega
 rw [e]at hs
 have h0:=h.red.inj hs (fun u hu=>by
  obtain⟨q,hq,rfl⟩:=Qp.1 hu
  show(x:Int)*vec a q.1.toNat-(y:Int)*vec b q.1.toNat=0
  rw [ma.zer q (hA.mem_iff.2 hq),mb.zer q (hB.mem_iff.2 hq)];simp)
 have hab:∀j,(x:Int)*vec a j=(y:Int)*vec b j:=fun j=>by have:=h0 j;omega
 rcases ma.pz with p1 | z1
 ·rcases mb.pz with p2 | z2
  ·exact QwJ p1 p2 hx hy hab
  intro j
  have:=hab j
  rw [z2 j,Qc1]at this
  rw [z2 j];exact(Qdm.1 this).resolve_left (by omega)
 intro j
 have:=hab j
 rw [z1 j,Qc1]at this
 rw [z1 j];exact((Qdm.1 this.symm).resolve_left (by omega)).symm
theorem QwK (h:Slv n vs m){A:QO}(hA:A.Perm m):((A.map pv).map Prod.fst).Nodup:=((hA.map pv).map Prod.fst).nodup_iff.2 h.nd
theorem Qx3 (h:Slv n vs m)(hn:n≤8){row:List Int}(hl:row.length=n)(hv:∀j,(vec row j).natAbs≤4):
  Qep (fun st p=>QaW (n:Int) st p.1 p.2) (Qad row) m=some (.inl (QiX n (Qad row) m))∧Mid n m (vec row) m (QiX n (Qad row) m):=by
 have st:=Mid.start (m:=m) hl hv
 have go:∀A:QO,A.Perm m→QcF (fun st p=>QaW (n:Int) st p.1 p.2) (Qad row) A=some (.inl (QiX n (Qad row) A))∧Mid n m (vec row) A (QiX n (Qad row) A):=fun A hA=>by
  have:=QzZ h hn hv A [] _ st (fun q hq=>hA.mem_iff.1 (by simpa using hq)) (by simpa using QwK h hA)
  simpa using this
 have g0:=go m (List.Perm.refl _)
 refine⟨Qi3.2 ⟨fun l' hl'=>?_,g0.1⟩,g0.2⟩
 have g1:=go l' hl'
 rw [g1.1,g0.1,Mid.uniq h hl' (List.Perm.refl _) g1.2 g0.2]
def Qmw (f:List Int→List Int)(S:List Int)(m:QO):QO:=m.map fun e=>(e.1,if e.1∈S then f e.2 else e.2)
theorem Qx4 (f:List Int→List Int)(S:List Int)(m:QO):(Qmw f S m).map Prod.fst=m.map Prod.fst:=by simp [Qmw]
theorem mget_of_mem {m:QO}(hn:(m.map Prod.fst).Nodup){k:Int}{v:List Int}(h:(k,v)∈m):QbJ m k=some v:=by
 induction m with
 | nil=>cases h
 | cons e m ih=>
  obtain⟨a,x⟩:=e
  rw [Qat,QcB]at hn
  rw [QuY]
  rcases QY.1 h with e | h
  ·cases e;rw [if_pos rfl]
  rw [if_neg (fun e=>hn.1 (Qp.2 ⟨(k,v),h,e.symm⟩)),ih hn.2 h]
theorem QyP {m:QO}(hn:(m.map Prod.fst).Nodup)(k:Int)(v:List Int):QhK m k v=m.map fun e=>(e.1,if e.1=k then v else e.2):=by
 induction m with
 | nil=>rfl
 | cons e m ih=>
  obtain⟨a,x⟩:=e
  rw [Qat,QcB]at hn
  show(if a=k then(k,v)::m else(a,x)::QhK m k v)=(a,if a=k then v else x)::m.map _
  by_cases ha:a=k
  ·rw [if_pos ha,if_pos ha,ha]
   congr 1
   have:∀e∈m,(e.1,if e.1=k then v else e.2)=e:=fun e he=>by
    rw [if_neg (fun e2=>hn.1 (Qp.2 ⟨e,he,by rw [e2,ha]⟩))]
   conv=>lhs;rw [←List.map_id m]
   exact Qgc fun e he=>(this e he).symm
  rw [if_neg ha,if_neg ha,ih hn.2]
theorem QyQ {f:List Int→List Int}{S:List Int}(hn:(m.map Prod.fst).Nodup){k:Int}{v:List Int}(h:(k,v)∈m)(hk:k ∉ S):Qb7 ltI (Qmw f S m) k (f v)=Qmw f (S++[k]) m:=by
 have hn2:((Qmw f S m).map Prod.fst).Nodup:=by rw [Qx4];exact hn
 have hm:(k,v)∈Qmw f S m:=Qp.2 ⟨(k,v),h,by rw [if_neg hk]⟩
 unfold Qb7
 rw [mget_of_mem hn2 hm]
 show QhK (Qmw f S m) k (f v)=_
 rw [QyP hn2]
 unfold Qmw
 rw [Qcj]
 refine Qgc fun e he=>?_
 show(e.1,if e.1=k then f v else if e.1∈S then f e.2 else e.2)=(e.1,if e.1∈S++[k]then f e.2 else e.2)
 by_cases ek:e.1=k
 ·have:e.2=v:=by
   have h1:=mget_of_mem hn (show(e.1,e.2)∈m from he)
   rw [ek,mget_of_mem hn h]at h1
   exact(Option.some.inj h1).symm
  rw [if_pos ek,if_pos (by rw [ek];simp),this]
 rw [if_neg ek]
 by_cases es:e.1∈S
 ·rw [if_pos es,if_pos (QlP _ es)]
 rw [if_neg es,if_neg (by simp [es,ek])]
theorem Qz0 {n q:Nat}{row:List Int}(hn:(m.map Prod.fst).Nodup)(hc:∀e∈m,Qak (n:Int) e.2 row (q:Int)=some (Q5 n e.2 row q)):
  Qep (fun st p=>QaA (n:Int) row (q:Int) st p.1 p.2) m m=some (.inl (m.map fun e=>(e.1,Q5 n e.2 row q))):=by
 have go:∀(T:QO) (S:List Int),(∀e∈T,e∈m)→(S++T.map Prod.fst).Nodup→QcF (fun st p=>QaA (n:Int) row (q:Int) st p.1 p.2) (Qmw (fun r=>Q5 n r row q) S m) T=some (.inl (Qmw (fun r=>Q5 n r row q) (S++T.map Prod.fst) m)):=by
  intro T
  induction T with
  | nil=>intro S _ _;rw [List.map_nil,Qoq];rfl
  | cons e T ih=>
   intro S hT hnd
   have hk:e.1 ∉ S:=fun hh=>by
    rw [List.nodup_append]at hnd
    exact hnd.2.2 _ hh e.1 (by simp) rfl
   have e2:S++(e::T).map Prod.fst=(S++[e.1])++T.map Prod.fst:=by simp
   rw [QcF]
   show(QaA (n:Int) row (q:Int) _ e.1 e.2).bind _=_
   unfold QaA
   rw [hc e (hT e Q6),Qh,Qh,QyQ (f:=fun r=>Q5 n r row q) hn (hT e Q6) hk]
   rw [e2]at hnd ⊢
   exact ih _ (fun x hx=>hT x (Qag _ hx)) hnd
 have all:∀A:QO,A.Perm m→QcF (fun st p=>QaA (n:Int) row (q:Int) st p.1 p.2) m A=some (.inl (m.map fun e=>(e.1,Q5 n e.2 row q))):=fun A hA=>by
  have h0:Qmw (fun r=>Q5 n r row q) [] m=m:=by
   unfold Qmw
   conv=>rhs;rw [←List.map_id m]
   exact Qgc fun e he=>by simp
  have h1:=go A [] (fun e he=>hA.mem_iff.1 he) (by simpa using (hA.map Prod.fst).nodup_iff.2 hn)
  rw [h0,List.nil_append]at h1
  rw [h1]
  congr 2
  refine Qgc fun e he=>?_
  rw [if_pos ((hA.map Prod.fst).mem_iff.2 (Qp.2 ⟨e,he,rfl⟩))]
 exact Qi3.2 ⟨fun l' hl'=>by rw [all l' hl',all m (List.Perm.refl _)],all m (List.Perm.refl _)⟩
end
end Go.Proofs
noncomputable section
namespace Go.Proofs
open Go Go.RowKit Go.Vm
theorem Qzh {s:List Int}(hm:s.length≤maxLen):Qbm s=some ((Qct (fun _ x=>x != 0) 0 s).elim (-1) fun i=>(i:Int)):=by
 unfold Qbm
 have h:=QuZ (body:=fun st=>Qae s st) (l:=s) (fun i=>(i:Int)) (fun _ x=>x != 0) (fun i=>.inl (i:Int)) (.inr ()) (fun i x hi hx=>by
  show Qae s (i:Int)=_
  unfold Qae QgW
  rw [Qaa (show(i:Int)<(s.length:Int) by omega),QB,hx,Qx hi hm]
  simp only [cond_true,Qh]
  cases (x != 0)<;>rfl) (by
  show Qae s (s.length:Int)=_
  unfold Qae
  rw [Q9 (by omega)];rfl) (s0:=0) rfl
 rw [h]
 cases Qct (fun _ x=>x != 0) 0 s<;>rfl
theorem Qua {α:Type}{p:α→Bool}:∀{l:List α} {k n:Nat},Qct (fun _ x=>p x) k l=some n→∀i x,k+i<n→l[i]? = some x→p x=false
 | [],k,n,h,i,x,_,hx=>by simp at hx
 | y::l,k,n,h,i,x,hi,hx=>by
  rw [Qct]at h
  cases hp:p y with
  | true=>rw [hp,cond_true]at h;cases h;omega
  | false=>
   rw [hp,cond_false]at h
   cases i with
   | zero=>simp at hx;subst hx;exact hp
   | succ i=>exact Qua h i x (by omega) (by simpa using hx)
theorem mins_perm (lt:Int→Int→Bool)(k:Int)(v:List Int):∀m:QO,(QqX lt m k v).Perm ((k,v)::m)
 | []=>List.Perm.refl _
 | (a,x)::m=>by
  rw [QqX]
  split
  ·exact List.Perm.refl _
  exact(List.Perm.cons _ (mins_perm lt k v m)).trans (List.Perm.swap _ _ _)
theorem Qwe {m:QO}{k:Int}(h:k ∉ m.map Prod.fst):QbJ m k=none:=by
 induction m with
 | nil=>rfl
 | cons e m ih=>
  obtain⟨a,x⟩:=e
  rw [Qat,QY,not_or]at h
  rw [QuY,if_neg (fun e=>h.1 e.symm),ih h.2]
section
variable {n:Nat}{vs:List Vec}{m:QO}
theorem Slv.knd (h:Slv n vs m):(m.map Prod.fst).Nodup:=by
 have h1:=h.nd
 have e:(m.map pv).map Prod.fst=(m.map Prod.fst).map Int.toNat:=by simp [pv,Qcj,Function.comp_def]
 rw [e]at h1
 clear e
 have key:∀l:List Int,(l.map Int.toNat).Nodup→l.Nodup:=by
  intro l
  induction l with
  | nil=>intro _;exact List.nodup_nil
  | cons a l ih=>
   intro h
   rw [Qat,QcB]at h
   exact QcB.2 ⟨fun hm=>h.1 (Qp.2 ⟨a,hm,rfl⟩),ih h.2⟩
 exact key _ h1
def Qco (m:QO):List Vec:=(m.map pv).map Prod.snd
def QrJ (n:Nat)(m:QO)(row:List Int):QO:=match Qct (fun _ x=>x != 0) 0 (QiX n (Qad row) m)with
 | none=>m
 | some q=>Qb7 ltI (m.map fun e=>(e.1,Q5 n e.2 (QiX n (Qad row) m) q)) (q:Int) (QiX n (Qad row) m)
theorem Qx5 (h:Slv n vs m)(hn:n≤8){row:List Int}(hl:row.length=n)(hv:∀j,(vec row j).natAbs≤4):QdZ (n:Int) m row=some (QrJ n m row)∧∃vs',Slv n vs' (QrJ n m row)∧(∀x,Qz (Qco m) x→Qz (Qco (QrJ n m row)) x)∧Qz (Qco (QrJ n m row)) (vec row):=by
 have mx:(8:Nat)≤maxLen:=by decide
 obtain⟨r1,r2⟩:=Qx3 h hn hl hv
 unfold QdZ Qcw QrJ
 rw [Qjy (by show(0+row.length)*8≤140737488355328;omega),Qh,Qh,List.nil_append,Qt9 (fun x hx=>by
  obtain⟨j,hj,rfl⟩:=Qm1.1 hx
  have:=hv j
  rw [Qfe hj]at this
  unfold Sm;omega) (by omega),Qh,r1,Qh]
 obtain⟨y,hy⟩:∃y,QiX n (Qad row) m=y:=⟨_,rfl⟩
 rw [hy]at r1 r2 ⊢
 show Qd9 m (n:Int) y=_∧_
 unfold Qd9
 rw [Qzh (by rw [r2.len];omega),Qh]
 cases hs:Qct (fun _ x=>x != 0) 0 y with
 | none=>
  refine⟨rfl,vs,h,fun x hx=>hx,?_⟩
  obtain⟨be,hb,hrel⟩:=r2.rel
  refine⟨Qdb (vec row) m,QpK h _ m fun q hq=>hq,?_⟩
  have hz:∀j,vec y j=0:=fun j=>by
   by_cases hj:j<y.length
   ·have:=Qnf hs j _ (QaM hj)
    simpa using this
   exact Qb9 (by omega)
  have e:(fun j=>Qdb (vec row) m*vec row j-(be:Int)*vec y j)=fun j=>Qdb (vec row) m*vec row j:=by
   funext j;rw [hz j];simp
  rw [e]at hrel
  exact hrel
 | some q=>
  obtain⟨i,x,e,hx,hne⟩:=Qne hs
  rw [QkT]at e;subst e
  have hqn:q<n:=by rw [←r2.len];exact(QC.1 hx).1
  have hyq:vec y q≠0:=by
   have:=QaM (row:=y) (by rw [r2.len];exact hqn)
   rw [this]at hx;cases hx
   simpa using hne
  have hfirst:∀j,j<q→vec y j=0:=fun j hj=>by
   have:=Qua hs j (vec y j) (by omega) (QaM (by rw [r2.len];omega))
   simpa using this
  have hyz:∀e∈m,vec y e.1.toNat=0:=r2.zer
  have hyp:QjU (vec y):=r2.pz.resolve_right fun hz=>hyq (hz q)
  have ymag:=r2.mag h hn hv (fun q hq=>hq) h.nd
  have hc:∀e∈m,Qak (n:Int) e.2 y (q:Int)=some (Q5 n e.2 y q):=fun e he=>by
   have ml:=h.le hn he
   have b1:∀a b:Nat,a≤82575360→b≤2642411520→a*b≤4611686018427387903:=fun a b ha hb=>QU (QkS ha hb) (by decide)
   exact Qwd (h.keys e he).2.2.1 r2.len hqn (by omega) (fun j=>by rw [Qd5];exact b1 _ _ (ml j) (ymag _)) (fun j=>by rw [Qd5,Qiq];exact b1 _ _ (ml _) (ymag j))
  have hkq:(q:Int) ∉ m.map Prod.fst:=fun hm=>by
   obtain⟨e,he,e2⟩:=Qp.1 hm
   have:=hyz e he
   rw [e2,Qff]at this
   exact hyq this
  constructor
  ·show(bif decide ((q:Int)<0)then some m else(Qep (fun st p=>QaA (n:Int) y (q:Int) st p.1 p.2) m m).bind (Sum.elim (fun z=>QgA (q:Int) y z) (fun z=>Empty.elim z)))=_
   rw [Q9 (by omega),cond_false,Qz0 h.knd hc,Qh]
   rfl
  obtain⟨rs,hsys,hperm⟩:=h.sys
  obtain⟨be,hb,hrel⟩:=r2.rel
  let up:Nat×Vec→Vec:=fun u=>vec (Q5 n ((List.range n).map u.2) y q)
  have hrow:∀e∈m,(List.range n).map (vec e.2)=e.2:=fun e he=>by
   have hl2:=(h.keys e he).2.2.1
   refine Qnj (by simp [hl2]) fun j=>?_
   by_cases hj:j<n
   ·rw [Qfe (by simpa using hj)];simp
   rw [Qb9 (by simp;omega),Qb9 (by omega)]
  have hup:∀e∈m,up (pv e)=vec (Q5 n e.2 y q):=fun e he=>by
   show vec (Q5 n ((List.range n).map (vec e.2)) y q)=_
   rw [hrow e he]
  have upf:∀e∈m,up (pv e) q=0∧(∃g b c:Int,g≠0∧b≠0∧∀j,g*up (pv e) j=b*vec e.2 j-c*vec y j)∧(∀j,j<e.1.toNat→up (pv e) j=0):=fun e he=>by
   rw [hup e he]
   obtain⟨k1,k2,k3,k4⟩:=h.keys e he
   by_cases h0:vec e.2 q=0
   ·have hcl:Q5 n e.2 y q=e.2:=by unfold Q5;rw [if_pos h0]
    rw [hcl]
    exact⟨h0,⟨1,1,0,by decide,by decide,fun j=>by simp⟩,k4⟩
   obtain⟨c,hc,hcr⟩:=QpJ (k:=q) k3 r2.len h0
   have hz:∀j,vec y q*vec e.2 j-vec e.2 q*vec y j=0→vec (Q5 n e.2 y q) j=0:=fun j e3=>by
    have:=hcr j
    rw [e3]at this
    exact(Qdm.1 this).resolve_left (by omega)
   refine⟨hz q (by rw [QfG];omega),⟨(c:Int),vec y q,vec e.2 q,by omega,hyq,hcr⟩,fun j hj=>hz j ?_⟩
   have hpq:e.1.toNat≤q:=by
    cases Qcv q e.1.toNat with
    | inl h3=>exact absurd (k4 q h3) h0
    | inr h3=>exact h3
   rw [k4 j hj,hfirst j (by omega)];simp
  have nsys:=hsys.add (v:=vec row) (y:=vec y) (q:=q) (al:=Qdb (vec row) m) (be:=(be:Int)) (QpK h _ m fun q hq=>hq) (by omega) (hrel.mono fun u hu=>.mem u (by
    exact((hperm.map Prod.snd).mem_iff).2 hu)) (fun u hu=>by
    obtain⟨e,he,rfl⟩:=Qp.1 (hperm.mem_iff.1 hu)
    exact hyz e he) hyq hyp up (fun u hu=>by
    obtain⟨e,he,rfl⟩:=Qp.1 (hperm.mem_iff.1 hu)
    obtain⟨u1,u2,u3⟩:=upf e he
    refine⟨?_,u1,u2⟩
    rw [hup e he]
    refine(Qtm (.inl (h.prim he))).resolve_right fun hz=>?_
    obtain⟨g,b,c,hg,hb2,he2⟩:=u2
    have h1:=he2 e.1.toNat
    rw [hyz e he,hup e he,hz]at h1
    rw [Qc1,Qc1,Int.sub_zero]at h1
    rcases Qdm.1 h1.symm with h2 | h2
    ·exact hb2 h2
    exact h.red.ne (pv e) (Qp.2 ⟨e,he,rfl⟩) h2)
  have hkn:QbJ (m.map fun e=>(e.1,Q5 n e.2 y q)) (q:Int)=none:=Qwe (by
   intro hm;apply hkq
   simpa [Qcj,Function.comp_def] using hm)
  have hset:(Qb7 ltI (m.map fun e=>(e.1,Q5 n e.2 y q)) (q:Int) y).Perm (((q:Int),y)::m.map fun e=>(e.1,Q5 n e.2 y q)):=by
   unfold Qb7
   rw [hkn]
   exact mins_perm _ _ _ _
  have hp2:((q,vec y)::rs.map fun u=>(u.1,up u)).Perm ((Qb7 ltI (m.map fun e=>(e.1,Q5 n e.2 y q)) (q:Int) y).map pv):=by
   refine List.Perm.trans ?_ (hset.map pv).symm
   rw [Qat,Qcj]
   refine List.Perm.cons _ ?_
   refine(hperm.map fun u=>(u.1,up u)).trans ?_
   rw [Qcj]
   refine List.Perm.of_eq (Qgc fun e he=>?_)
   show((pv e).1,up (pv e))=pv (e.1,Q5 n e.2 y q)
   rw [hup e he];rfl
  have vp:∀v,v∈((q,vec y)::rs.map fun u=>(u.1,up u)).map Prod.snd→v∈Qco (Qb7 ltI (m.map fun e=>(e.1,Q5 n e.2 y q)) (q:Int) y):=fun v hv=>((hp2.map Prod.snd).mem_iff).1 hv
  refine⟨vec row::vs,⟨fun e he=>?_,?_,⟨_,nsys,hp2⟩,?_⟩,fun x hx=>?_,(nsys.spn _ Q6).sub vp⟩
  ·rcases QY.1 (hset.mem_iff.1 he)with rfl | he
   ·exact⟨by simp,by simpa using hqn,r2.len,by simpa using hfirst⟩
   obtain⟨x,hx,rfl⟩:=Qp.1 he
   obtain⟨k1,k2,k3,k4⟩:=h.keys x hx
   refine⟨k1,k2,Qqn k3,fun j hj=>?_⟩
   have:=(upf x hx).2.2 j hj
   rw [hup x hx]at this
   exact this
  ·rw [←(hp2.map Prod.fst).nodup_iff]
   exact nsys.red.nd
  ·intro v hv2
   rcases QY.1 hv2 with rfl | hv2
   ·exact hv
   exact h.mag v hv2
  refine(Qz.keep (q:=q) (up:=up) (y:=vec y) (rs:=rs) (fun u hu=>?_) (hx.sub fun v hv=>((hperm.map Prod.snd).mem_iff).2 hv)).sub vp
  obtain⟨e,he,rfl⟩:=Qp.1 (hperm.mem_iff.1 hu)
  obtain⟨_,⟨g,b,c,_,hb2,he2⟩,_⟩:=upf e he
  exact⟨g,b,c,hb2,he2⟩
end
end Go.Proofs
noncomputable section
namespace Go.Proofs
open Go Go.RowKit Go.Vm
theorem Qr2 {w:List Int}{p:Nat}(h:p<w.length)(v:Int)(j:Nat):vec (w.set p v) j=if j=p then v else vec w j:=by
 unfold vec
 rw [Qvn,Qvn,Qi0]
 by_cases e:p=j
 ·subst e;rw [if_pos rfl,if_pos rfl,if_pos h];rfl
 rw [if_neg e,if_neg (fun e2=>e e2.symm)]
def dd (place:Nat)(e:Int×List Int):Nat:=(vec e.2 e.1.toNat).natAbs / Nat.gcd (vec e.2 e.1.toNat).natAbs (vec e.2 place).natAbs
def Qcs (place:Nat)(L:Nat)(T:QO):Nat:=T.foldl (fun L e=>Nat.lcm L (dd place e)) L
def Qmx (place L:Nat)(e:Int×List Int):Int:=Int.tdiv (-(vec e.2 place)*(L:Int)) (vec e.2 e.1.toNat)
def Qhp (place L:Nat)(w:List Int)(T:QO):List Int:=T.foldl (fun w e=>w.set e.1.toNat (Qmx place L e)) w
section
variable {n:Nat}{vs:List Vec}{m:QO}
theorem Slv.ne (h:Slv n vs m){e:Int×List Int}(he:e∈m):vec e.2 e.1.toNat≠0:=h.red.ne (pv e) (Qp.2 ⟨e,he,rfl⟩)
theorem Slv.det (h:Slv n vs m)(hn:n≤8):∃D:Nat,0<D∧D≤2642411520∧∀e∈m,∃t:Nat,D=(vec e.2 e.1.toNat).natAbs*t∧∀j,t*(vec e.2 j).natAbs≤2642411520:=by
 obtain⟨rs,hs,hp⟩:=h.sys
 refine⟨(Vm.det vs (rs.map Prod.fst)).natAbs,QkM.2 hs.det,?_,fun e he=>?_⟩
 ·refine QU (QpI vs _ h.mag (by rw [hs.len];simp)) ?_
  have:∀k,k<9→fac k*4 ^ k≤2642411520:=by decide
  exact this _ (by have h1:=h.len;have h2:=h.vlen;omega)
 have hm:pv e∈rs:=hp.mem_iff.2 (Qp.2 ⟨e,he,rfl⟩)
 obtain⟨p,s,hps⟩:=QpN hm
 obtain⟨t,_,t2,t3⟩:=hs.cram hps
 refine⟨t.natAbs,by rw [t2,Qd5];rfl,fun j=>?_⟩
 have h9:∀k,k<9→fac k*4 ^ k≤2642411520:=by decide
 have h1:=QpI vs (p.map Prod.fst++j::s.map Prod.fst) h.mag (by rw [hs.len,hps];simp)
 rw [t3 j,Qd5]at h1
 exact QU h1 (h9 _ (by have h1:=h.len;have h2:=h.vlen;omega))
theorem Qx6 (place:Nat)(e:Int×List Int):dd place e ∣ (vec e.2 e.1.toNat).natAbs:=Nat.div_dvd_of_dvd (QpQ _ _)
theorem Qx7 {a b:Nat}(ha:0<a):a / Nat.gcd a b*b=Nat.lcm a b:=by
 have hg:0<Nat.gcd a b:=Qot _ ha
 obtain⟨k,hk⟩:=QpQ a b
 unfold Nat.lcm
 generalize Nat.gcd a b=g at *
 subst hk
 rw [Qnl _ hg,Nat.mul_assoc,Qnl _ hg]
theorem QyR (h:Slv n vs m)(hn:n≤8){place:Nat}(hpl:place<n){D:Nat}(hD:0<D)(hD2:D≤2642411520)(hd:∀e∈m,(vec e.2 e.1.toNat).natAbs ∣ D):∀(T:QO) (L:Nat),(∀e∈T,e∈m)→0<L→L ∣ D→
  QcF (fun st p=>QaK (place:Int) st p.1 p.2) (L:Int) T=some (.inl (Qcs place L T:Int))∧0<Qcs place L T∧Qcs place L T ∣ D
 | [],L,_,h1,h2=>⟨rfl,h1,h2⟩
 | e::T,L,hT,h1,h2=>by
  have he:=hT e Q6
  obtain⟨k1,k2,k3,k4⟩:=h.keys e he
  have hL:=QkR hD h2
  have ma:=h.le hn he e.1.toNat
  have mb:=h.le hn he place
  have hne:=h.ne he
  have ddv:dd place e ∣ D:=Nat.dvd_trans (Qx6 place e) (hd e he)
  have ddp:0<dd place e:=Nat.pos_of_dvd_of_pos (Qx6 place e) (QkM.2 hne)
  have hlc:Nat.lcm L (dd place e) ∣ D:=Nat.lcm_dvd h2 ddv
  have hlp:0<Nat.lcm L (dd place e):=Nat.lcm_pos h1 ddp
  have hll:=QkR hD hlc
  have step:QaK (place:Int) (L:Int) e.1 e.2=some (.inl (Nat.lcm L (dd place e):Int)):=by
   unfold QaK
   rw [k1,QB,QaM (by omega),Qh,Qh,QB,QaM (by omega),Qh]
   have hdd:(vec e.2 e.1.toNat).natAbs / Nat.gcd (vec e.2 e.1.toNat).natAbs (vec e.2 place).natAbs=dd place e:=rfl
   generalize vec e.2 e.1.toNat=a at *
   generalize vec e.2 place=b at *
   have hg:0<Nat.gcd a.natAbs b.natAbs:=Qot _ (QkM.2 hne)
   rw [Qwb (show Sm a by unfold Sm;omega) (show Sm b by unfold Sm;omega),Qh,QdQ (by simp;omega),Qh]
   have da:(Int.tdiv a (Nat.gcd a.natAbs b.natAbs:Int)).natAbs=dd place e:=by
    rw [QpM];exact hdd
   generalize Int.tdiv a (Nat.gcd a.natAbs b.natAbs:Int)=d at *
   have dl:=QkR hD ddv
   have wd:w64 d=d:=Qac (by omega)
   have wn:w64 (0-d)=-d:=by rw [Qac (by omega)];omega
   rw [wd,Qwb (show Sm (L:Int) by unfold Sm;omega) (show Sm d by unfold Sm;omega),Qh]
   have e1:(L:Int).natAbs=L:=rfl
   rw [e1,da]
   have hg2:0<Nat.gcd L (dd place e):=Qot _ h1
   rw [QdQ (by simp;omega),Qh,wn]
   have e2:max2 d (-d)=(dd place e:Int):=by rw [←da];unfold max2;split<;>omega
   have e3:Int.tdiv (L:Int) (Nat.gcd L (dd place e):Int)=((L / Nat.gcd L (dd place e):Nat):Int):=(Int.ofNat_tdiv _ _).symm
   have e4:=Qx7 (b:=dd place e) h1
   have le1:L / Nat.gcd L (dd place e)≤L:=Nat.div_le_self _ _
   have w1:w64 ((L / Nat.gcd L (dd place e):Nat):Int)=((L / Nat.gcd L (dd place e):Nat):Int):=by
    generalize L / Nat.gcd L (dd place e)=u at le1 ⊢
    exact Qac (by omega)
   have w2:w64 ((Nat.lcm L (dd place e):Nat):Int)=((Nat.lcm L (dd place e):Nat):Int):=by
    generalize Nat.lcm L (dd place e)=u at hll ⊢
    exact Qac (by omega)
   rw [e2,e3,w1,←Int.natCast_mul,e4,w2]
  have ih:=QyR h hn hpl hD hD2 hd T (Nat.lcm L (dd place e)) (fun x hx=>hT x (Qag _ hx)) hlp hlc
  refine⟨?_,ih.2⟩
  rw [QcF]
  show(QaK (place:Int) (L:Int) e.1 e.2).bind _=_
  rw [step,Qh]
  exact ih.1
theorem Qod {place:Nat}:∀(T:QO) (L:Nat),L ∣ Qcs place L T∧∀e∈T,dd place e ∣ Qcs place L T
 | [],L=>⟨Nat.dvd_refl _,fun e h=>by cases h⟩
 | x::T,L=>by
  have ih:=Qod (place:=place) T (Nat.lcm L (dd place x))
  refine⟨Nat.dvd_trans (Nat.dvd_lcm_left _ _) ih.1,fun e he=>?_⟩
  rcases QY.1 he with rfl | he
  ·exact Nat.dvd_trans (Nat.dvd_lcm_right _ _) ih.1
  exact ih.2 e he
theorem Qz1 (h:Slv n vs m)(hn:n≤8){place:Nat}(hpl:place<n){L:Nat}(hL:L≤2642411520):∀(T:QO) (w:List Int),(∀e∈T,e∈m)→w.length=n→
  QcF (fun st p=>QaL (place:Int) (L:Int) st p.1 p.2) w T=some (.inl (Qhp place L w T))
 | [],w,_,_=>rfl
 | e::T,w,hT,hw=>by
  have he:=hT e Q6
  obtain⟨k1,k2,k3,k4⟩:=h.keys e he
  have ma:=h.le hn he e.1.toNat
  have mb:=h.le hn he place
  have hne:=h.ne he
  have step:QaL (place:Int) (L:Int) w e.1 e.2=some (.inl (w.set e.1.toNat (Qmx place L e))):=by
   unfold QaL Qmx
   rw [QB,QaM (by omega),Qh,k1,QB,QaM (by omega),Qh,Qff]
   have hwk:idx w (e.1.toNat:Int)=some (vec w e.1.toNat):=by rw [QB,QaM (by omega)]
   rw [hwk]
   generalize vec e.2 e.1.toNat=a at *
   generalize vec e.2 place=b at *
   have pr:((-b)*(L:Int)).natAbs≤82575360*2642411520:=by
    rw [Qd5];exact QkS (by omega) (by omega)
   rw [QdQ (by simpa using hne),Qh,Qh]
   have e0:(0:Int)-b=-b:=by omega
   rw [e0,Qac (n:=-b) (by omega),Qac (n:=-b*(L:Int)) (by omega)]
   have e5:(Int.tdiv (-b*(L:Int)) a).natAbs≤82575360*2642411520:=by
    rw [QpM];exact QU (Nat.div_le_self _ _) pr
   rw [Qac (n:=Int.tdiv (-b*(L:Int)) a) (by omega)]
  have ih:=Qz1 h hn hpl hL T (w.set e.1.toNat (Qmx place L e)) (fun x hx=>hT x (Qag _ hx)) (by rw [QkO];exact hw)
  rw [QcF]
  show(QaL (place:Int) (L:Int) w e.1 e.2).bind _=_
  rw [step,Qh]
  exact ih
theorem Qqo {place L:Nat}:∀(T:QO) (w:List Int),(Qhp place L w T).length=w.length
 | [],w=>rfl
 | e::T,w=>by
  show(Qhp place L (w.set e.1.toNat (Qmx place L e)) T).length=_
  rw [Qqo T,QkO]
theorem Qoe {place L:Nat}{j:Nat}:∀(T:QO) (w:List Int),(∀e∈T,e.1.toNat<w.length∧e.1.toNat≠j)→vec (Qhp place L w T) j=vec w j
 | [],w,_=>rfl
 | e::T,w,h=>by
  show vec (Qhp place L (w.set e.1.toNat (Qmx place L e)) T) j=_
  obtain⟨h1,h2⟩:=h e Q6
  rw [Qoe T _ fun x hx=>by rw [QkO];exact h x (Qag _ hx),Qr2 h1,if_neg (fun e2=>h2 e2.symm)]
theorem Qr3 {place L:Nat}{e:Int×List Int}:∀(T:QO) (w:List Int),(∀x∈T,x.1.toNat<w.length)→(T.map fun x=>x.1.toNat).Nodup→e∈T→vec (Qhp place L w T) e.1.toNat=Qmx place L e
 | [],w,_,_,h=>by cases h
 | x::T,w,h,hn,he=>by
  rw [Qat,QcB]at hn
  show vec (Qhp place L (w.set x.1.toNat (Qmx place L x)) T) e.1.toNat=_
  have h2:∀y∈T,y.1.toNat<(w.set x.1.toNat (Qmx place L x)).length:=fun y hy=>by rw [QkO];exact h y (Qag _ hy)
  rcases QY.1 he with e2 | he
  ·subst e2
   rw [Qoe T _ fun y hy=>⟨h2 y hy,fun e3=>hn.1 (Qp.2 ⟨y,hy,e3⟩)⟩,Qr2 (h e Q6),if_pos rfl]
  exact Qr3 T _ h2 hn.2 he
theorem Slv.tnd (h:Slv n vs m){A:QO}(hA:A.Perm m):(A.map fun x=>x.1.toNat).Nodup:=by
 have:=QwK h hA
 simpa [Qcj,Function.comp_def,pv] using this
end
end Go.Proofs
noncomputable section
namespace Go.Proofs
open Go Go.RowKit Go.Vm
def Qcp (x:Int):Bool:=decide (4<max2 x (w64 (0-x)))
theorem QwC {x:Int}(hx:-32≤x∧x≤32)(h:Qcp x=false):x.natAbs≤4:=by
 unfold Qcp at h
 rw [Qac (by omega),Qb2]at h
 unfold max2 at h
 split at h<;>omega
theorem QwD {e:List Int}(hl:e.length≤maxLen):QgV e=some (e.any Qcp):=by
 unfold QgV QcG Qdl
 rw [QrF (l:=e) Qcp (fun i x hi hx=>by
  show Qaq e i=_
  unfold Qaq
  rw [Qaa (by omega),cond_true,QB,hx,Qh,show QiD x=some (Qcp x)from rfl,Qh,Qx hi hl]
  cases Qcp x<;>rfl) (by
  show Qaq e e.length=_
  unfold Qaq
  rw [Q9 (by omega),cond_false]),←Qv3]
 cases Qct (fun _ x=>Qcp x) 0 e<;>rfl
theorem QwE {l:List (List Int)}(hl:l.length≤maxLen)(he:∀e∈l,e.length≤maxLen):Qcb l=some (l.any fun e=>e.any Qcp):=by
 unfold Qcb Qej
 rw [QrF (l:=l) (fun e=>e.any Qcp) (fun i x hi hx=>by
  show QaI l i=_
  unfold QaI
  rw [Qaa (by omega),cond_true,QB,hx,Qh,QwD (he x (QX hx)),Qh,Qx hi hl]
  cases (x.any Qcp)<;>rfl) (by
  show QaI l l.length=_
  unfold QaI
  rw [Q9 (by omega),cond_false]),←Qv3]
 cases Qct (fun _ e=>e.any Qcp) 0 l<;>rfl
theorem Slv.nil (n:Nat):Slv n [] []:=by
 have r:Red []:=⟨List.nodup_nil,(fun q h=>by cases h),(fun q h=>by cases h)⟩
 have s:QjV [] []:=⟨r,(fun q h=>by cases h),(fun q h=>by cases h),by decide,rfl⟩
 exact⟨(fun q h=>by cases h),List.nodup_nil,⟨[],s,List.Perm.refl _⟩,(fun v h=>by cases h)⟩
structure QAR (N:Nat) (m:QO) (p:Nat) (w:List Int):Prop where
 lt:p<N
 fr:(p:Int) ∉ m.map Prod.fst
 len:w.length=N
 pos:0<vec w p
 out:∀j,j≠p→(∀e∈m,e.1.toNat≠j)→vec w j=0
 hi:∀j,p<j→vec w j=0
 le:∀j,(vec w j).natAbs≤2642411520
 piv:∃L:Nat,0<L∧L≤2642411520∧vec w p=(L:Int)∧∀e∈m,vec w e.1.toNat*vec e.2 e.1.toNat=-(vec e.2 p)*(L:Int)
def QoP (k:Nat):Vec:=fun j=>if j=k then 1 else 0
theorem QwL {n:Qm}{e:List Int}(h:Eff n 32 e)(hg:e.any Qcp=false):∀j,(vec e j).natAbs≤4:=fun j=>by
 by_cases hj:j<e.length
 ·rw [Qfe hj]
  have h1:=List.any_eq_false.1 hg _ (Qbb hj)
  exact QwC (h.2 _ (Qbb hj)) (by simpa using h1)
 rw [Qb9 (by omega)];simp
end Go.Proofs
noncomputable section
namespace Go.Proofs
open Go Go.RowKit Go.Vm
theorem QuI {a b:Int}(ha:Sm a)(hb:Sm b):QhJ a b=some (Nat.gcd a.natAbs b.natAbs:Int):=by
 obtain⟨g,hg,h⟩:=Qwa b.natAbs a b rfl ha hb
 unfold QhJ
 have e:Qq (fun st:Int×Int=>QlG st.1 st.2) (a,b)=Qq (fun st:Int×Int=>QeJ st.1 st.2) (a,b):=rfl
 rw [e,hg,Qh]
 unfold QlH
 have hs:Nat.gcd a.natAbs b.natAbs≤9223372036854775807:=by
  by_cases h0:b=0
  ·subst h0
   show Nat.gcd a.natAbs 0≤_
   rw [Nat.gcd_zero_right];exact ha
  exact QU (Nat.gcd_le_right _ (QkM.2 h0)) hb
 by_cases hn:g<0
 ·rw [Qaa hn,cond_true,Qac (by omega)]
  congr 1;omega
 rw [Q9 hn,cond_false]
 congr 1;omega
theorem QyS {row:List Int}(h:Qai row≤1):Qad row=row:=by
 unfold Qad
 by_cases h0:Qai row=0
 ·rw [if_pos h0]
 rw [if_neg h0,show Qai row=1 by omega]
 conv=>rhs;rw [←List.map_id row]
 exact Qgc fun x _=>Int.tdiv_one x
theorem Qzi {row:List Int}(h:Qxq row)(hl:row.length≤4000000):Qlh row=some (Qad row):=by
 unfold Qlh
 have mx:(4000000:Nat)≤maxLen:=by decide
 have h1:=QbB (body:=fun st:Int×Int=>Qda row st.1 st.2) row.length (fun i s=>s=((Qai (row.take i):Int),(i:Int))) (fun r=>r=(Qai row:Int)) (fun i s hi hs=>by
  subst hs
  left
  have hx:row[i]? = some row[i]:=QD hi
  show ∃s',Qda row (Qai (row.take i):Int) (i:Int)=_∧_
  unfold Qda
  have hs2:Sm (Qai (row.take i):Int):=by
   have:=QwI (row:=row.take i) fun x hx=>h x (Qgf hx)
   unfold Sm;omega
  rw [Qaa (show(i:Int)<(row.length:Int) by omega),cond_true,QB,hx,Qh,QuI hs2 (h _ (Qbb hi)),Qh]
  refine⟨_,rfl,?_⟩
  rw [Qx hi (by omega),Qu2 hx];simp) (fun s hs=>by
  subst hs
  refine⟨_,?_,rfl⟩
  show Qda row (Qai (row.take row.length):Int) (row.length:Int)=_
  unfold Qda
  rw [Q9 (by omega),QlQ];rfl) (0,0) (by simp [Qai])
 obtain⟨r,hr,rfl⟩:=h1
 rw [hr,Qh]
 unfold Qlg
 rw [QdQ (by simp;omega),Qh,List.nil_append]
 by_cases h0:Qai row≤1
 ·rw [QyS h0]
  have e:Qq (fun st:Int×List Int=>Qbw (Qai row:Int) st.1 st.2) (0,row)=some row:=by
   refine QlZ.2 (.done ?_)
   show Qbw (Qai row:Int) 0 row=_
   unfold Qbw
   rw [Q9 (show ¬(1:Int)<(Qai row:Int) by omega),Bool.and_false,cond_false]
  rw [e];rfl
 have h2:=QbB (body:=fun st:Int×List Int=>Qbw (Qai row:Int) st.1 st.2) row.length (fun i s=>s=((i:Int),(row.take i).map (fun x=>Int.tdiv x (Qai row))++row.drop i)) (fun r=>r=row.map fun x=>Int.tdiv x (Qai row)) (fun i s hi hs=>by
  subst hs
  left
  have hx:row[i]? = some row[i]:=QD hi
  show ∃s',Qbw (Qai row:Int) (i:Int) _=_∧_
  unfold Qbw
  have ln:((row.take i).map fun x=>Int.tdiv x (Qai row)).length=i:=by simp;omega
  have hr2:row.drop i=row[i]::row.drop (i+1):=QrL hi
  have ne:((Qai row:Int) != 0)=true:=by
   have:¬(Qai row:Int)=0:=by omega
   simpa using this
  rw [Qaa (show(i:Int)<(((row.take i).map (fun x=>Int.tdiv x (Qai row))++row.drop i).length:Int) by simp;omega),Qaa (show(1:Int)<(Qai row:Int) by omega),Bool.and_true,cond_true,QB,hr2,QbC (by omega),ln,Qir]
  rw [show(row[i]::row.drop (i+1))[0]? = some row[i]from rfl,Qh,QdQ ne,Qh,Qh]
  refine⟨_,rfl,?_⟩
  have sm:Sm (Int.tdiv row[i] (Qai row)):=by
   have:=h _ (Qbb hi)
   unfold Sm at *
   rw [QpM]
   exact QU (Nat.div_le_self _ _) this
  rw [Qx hi (by omega),sm.w,Qff,QrQ _ _ (by omega),ln,Qir,QfH,hx,QkP,Qd6]
  rfl) (fun s hs=>by
  subst hs
  refine⟨_,?_,rfl⟩
  show Qbw (Qai row:Int) (row.length:Int) _=_
  unfold Qbw
  rw [Q9 (by simp),Bool.false_and,cond_false,QlQ,List.drop_length,Qoq]) (0,row) (by simp)
 obtain⟨r,hr',rfl⟩:=h2
 rw [hr',Qh]
 unfold Qlf Qad
 rw [if_neg (by omega)]
end Go.Proofs
noncomputable section
namespace Go.Proofs
open Go Go.RowKit Go.Vm
def Qxr (row own:List Int)(p:Nat):Prop:=∀j,(vec row j*vec own p).natAbs≤4611686018427387903∧(vec own j*vec row p).natAbs≤4611686018427387903
theorem Qzj {n:Qm}{l:List (List Int)}{i p:Nat}{row own:List Int}(hi:l[i]? = some row)(hr:row.length=n.Places.length)(ho:own.length=n.Places.length)(hp:p<n.Places.length)(hn:n.Places.length≤4000000)(hb:Qxr row own p):
  Qq (fun st=>QbU n l (i:Int) own (p:Int) st.1 st.2) (0,List.replicate (n.Places.length:Int).toNat (0:Int))=some (Qen n.Places.length row own p):=by
 have mx:(4000000:Nat)≤maxLen:=by decide
 generalize hN:n.Places.length=N at *
 have h:=QbB (body:=fun st:Int×List Int=>QbU n l (i:Int) own (p:Int) st.1 st.2) N (fun i s=>s=((i:Int),(Qen N row own p).take i++List.replicate (N-i) 0)) (fun r=>r=Qen N row own p) (fun j s hj hs=>by
  subst hs
  left
  show ∃s',QbU n l (i:Int) own (p:Int) (j:Int) _=_∧_
  unfold QbU
  have ln:((Qen N row own p).take j).length=j:=by rw [QdK,QdJ];omega
  have hr2:List.replicate (N-j) (0:Int)=0::List.replicate (N-(j+1)) 0:=by
   rw [show N-j=(N-(j+1))+1 by omega];rfl
  rw [hN,Qaa (show(j:Int)<(N:Int) by omega),cond_true,QB,hi,Qh,QB,QaM (row:=row) (by omega),Qh,QB,QaM (row:=own) (by omega),Qh,QB,QaM (row:=own) (by omega),Qh,Qh,QB,QaM (row:=row) (by omega),Qh,QB,hr2,QbC (by omega),ln,Qir]
  refine⟨_,rfl,?_⟩
  have b1:=(hb j).1
  have b2:=(hb j).2
  have e1:w64 (vec row j*vec own p)=vec row j*vec own p:=Qac (by omega)
  have e2:w64 (vec own j*vec row p)=vec own j*vec row p:=Qac (by omega)
  have e3:w64 (vec row j*vec own p-vec own j*vec row p)=vec (Qen N row own p) j:=by rw [QiW hr ho,Qac (by omega)]
  have tk:(Qen N row own p).take (j+1)=(Qen N row own p).take j++[vec (Qen N row own p) j]:=by
   rw [QfH,QaM (by rw [QdJ];exact hj)];rfl
  rw [Qx hj (by omega),e1,e2,e3,Qff,QrQ _ _ (by omega),ln,Qir,tk,Qd6]
  rfl) (fun s hs=>by
  subst hs
  refine⟨_,?_,rfl⟩
  show QbU n l (i:Int) own (p:Int) (N:Int) _=_
  unfold QbU
  rw [hN,Q9 (by simp),Qgg (by rw [QdJ];omega)];simp) (0,List.replicate (N:Int).toNat 0) (by simp)
 obtain⟨r,hr',rfl⟩:=h
 exact hr'
def Qft (N used p:Nat)(own:List Int)(i:Nat)(row:List Int):List Int:=if i=used then row else Q5 N row own p
def Qfu (N used p:Nat)(own:List Int)(l:List (List Int)):List (List Int):=l.mapIdx (Qft N used p own)
theorem Qu4 {N used p:Nat}{own:List Int}{l:List (List Int)}(i:Nat):(Qfu N used p own l)[i]? = l[i]?.map (Qft N used p own i):=by
 unfold Qfu;rw [List.getElem?_mapIdx]
theorem Qzk {n:Qm}{l:List (List Int)}{i p used:Nat}{row own:List Int}(hi:l[i]? = some row)(hr:row.length=n.Places.length)(ho:own.length=n.Places.length)(hp:p<n.Places.length)(hn:n.Places.length≤4000000)(hb:i≠used→Qxr row own p)(hl:l.length≤4000000):
  Qbq (used:Int) (p:Int) n own (i:Int) l=some (.inl (((i+1:Nat):Int),l.set i (Qft n.Places.length used p own i row))):=by
 have mx:(4000000:Nat)≤maxLen:=by decide
 have hil:=(QC.1 hi).1
 have hset:l.set i row=l:=by
  obtain⟨_,e⟩:=QC.1 hi
  rw [←e];exact List.set_getElem_self _
 unfold Qbq
 rw [Qaa (show(i:Int)<(l.length:Int) by omega),cond_true]
 unfold QmT Qft
 by_cases hu:i=used
 ·rw [show((i:Int)==(used:Int))=true by rw [hu];simp,cond_true,Qh]
  unfold Qes Qdd
  rw [cond_true,Qx hil (by omega),if_pos hu,hset]
 rw [show((i:Int)==(used:Int))=false by simp;omega,cond_false,QB,hi,Qh,QB,QaM (row:=row) (by omega),Qh,Qh]
 unfold Qes Qdd Q5
 by_cases h0:vec row p=0
 ·rw [show(vec row p==0)=true by simpa using h0,cond_true,Qx hil (by omega),if_neg hu,if_pos h0,hset]
 rw [show(vec row p==0)=false by simpa using h0,cond_false,QdQ (by simp;omega),Qh,Qzj hi hr ho hp hn (hb hu),Qh]
 unfold QjL
 rw [Qzi (fun x hx=>by
  obtain⟨j,hj,rfl⟩:=Qm1.1 hx
  have:=QiW (k:=p) hr ho j
  rw [Qfe hj]at this
  rw [this]
  have b1:=(hb hu j).1
  have b2:=(hb hu j).2
  unfold Sm;omega) (by rw [QdJ];exact hn),Qh,QB,hi,Qh]
 unfold Qdd
 rw [Qx hil (by omega),if_neg hu,if_neg h0,Qff]
theorem QyT {n:Qm}{l:List (List Int)}{p used:Nat}{own:List Int}(hr:∀row∈l,row.length=n.Places.length)(ho:own.length=n.Places.length)(hp:p<n.Places.length)(hn:n.Places.length≤4000000)(hb:∀i row,l[i]? = some row→i≠used→Qxr row own p)(hl:l.length≤4000000):
  Qq (fun st=>Qbq (used:Int) (p:Int) n own st.1 st.2) (0,l)=some (Qfu n.Places.length used p own l):=by
 have hlen:(Qfu n.Places.length used p own l).length=l.length:=by simp [Qfu]
 have h:=QbB (body:=fun st:Int×List (List Int)=>Qbq (used:Int) (p:Int) n own st.1 st.2) l.length (fun i s=>s=((i:Int),(Qfu n.Places.length used p own l).take i++l.drop i)) (fun r=>r=Qfu n.Places.length used p own l) (fun i s hi hs=>by
  subst hs
  left
  have hx:l[i]? = some l[i]:=QD hi
  have ln:((Qfu n.Places.length used p own l).take i).length=i:=by rw [QdK,hlen];omega
  have hd:l.drop i=l[i]::l.drop (i+1):=QrL hi
  have hg:((Qfu n.Places.length used p own l).take i++l.drop i)[i]? = some l[i]:=by
   rw [QbC (by omega),ln,Qir,hd];rfl
  have:=Qzk (used:=used) hg (hr _ (Qbb hi)) ho hp hn (fun hu=>hb i _ hx hu) (by rw [Qfg,ln,Qj6];omega)
  refine⟨_,this,?_⟩
  have tk:(Qfu n.Places.length used p own l).take (i+1)=(Qfu n.Places.length used p own l).take i++[Qft n.Places.length used p own i l[i]]:=by
   rw [QfH,Qu4,hx];rfl
  rw [QrQ _ _ (by omega),ln,Qir,hd,tk,Qd6]
  rfl) (fun s hs=>by
  subst hs
  refine⟨_,?_,rfl⟩
  show Qbq (used:Int) (p:Int) n own (l.length:Int) _=_
  unfold Qbq
  rw [Qgg (by omega),List.drop_length,Qoq,Q9 (by rw [hlen];omega)];rfl) (0,l) (by simp)
 obtain⟨r,hr',rfl⟩:=h
 exact hr'
end Go.Proofs
noncomputable section
namespace Go.Proofs
open Go Go.RowKit Go.Vm
theorem Qub {a b:List Int}{x y:Nat}(hl:a.length=b.length)(hx:0<x)(hy:0<y)(h:∀j,(x:Int)*vec a j=(y:Int)*vec b j):Qad a=Qad b:=by
 obtain⟨c,hc,h1⟩:=Qem a
 obtain⟨d,hd,h2⟩:=Qem b
 refine Qnj (by rw [QfY,QfY,hl]) ?_
 by_cases hz:∃j,vec a j≠0
 ·obtain⟨j,hj⟩:=hz
  have hbj:vec b j≠0:=fun e=>by
   have:=h j
   rw [e,Qc1]at this
   rcases Qdm.1 this with h3 | h3
   ·omega
   exact hj h3
  refine QwJ (x:=x*c) (y:=y*d) (QkI ⟨j,hj⟩) (QkI ⟨j,hbj⟩) (Nat.mul_pos hx hc) (Nat.mul_pos hy hd) fun i=>?_
  have e:=h i
  rw [h1 i,h2 i,←Qba,←Qba]at e
  exact_mod_cast e
 intro j
 have ha:vec a j=0:=Classical.byContradiction fun e=>hz ⟨j,e⟩
 have hb:vec b j=0:=by
  have:=h j
  rw [ha,Qc1]at this
  rcases Qdm.1 this.symm with h3 | h3
  ·omega
  exact h3
 have e1:=h1 j
 have e2:=h2 j
 rw [ha]at e1
 rw [hb]at e2
 rw [(Qdm.1 e1.symm).resolve_left (by omega),(Qdm.1 e2.symm).resolve_left (by omega)]
theorem Qu5 (row:List Int):Qad (Qad row)=Qad row:=by
 obtain⟨c,hc,h⟩:=Qem row
 exact(Qub (x:=1) (y:=c) (QfY row).symm (by omega) hc fun j=>by rw [h j];simp).symm
theorem QgR {row:List Int}{j:Nat}:vec (Qad row) j=0↔vec row j=0:=by
 obtain⟨c,hc,h⟩:=Qem row
 rw [h j]
 exact⟨fun e=>by rw [e,Qc1],fun e=>(Qdm.1 e).resolve_left (by omega)⟩
theorem Qzl {N p:Nat}{row own:List Int}(hr:row.length=N)(ho:own.length=N):Qad (Q5 N row own p)=Q5 N (Qad row) (Qad own) p:=by
 by_cases h0:vec row p=0
 ·unfold Q5
  rw [if_pos h0,if_pos (QgR.2 h0)]
 unfold Q5
 rw [if_neg h0,if_neg fun e=>h0 (QgR.1 e),Qu5]
 obtain⟨c,hc,h1⟩:=Qem row
 obtain⟨d,hd,h2⟩:=Qem own
 refine Qub (x:=1) (y:=c*d) (by rw [QdJ,QdJ]) (by omega) (Nat.mul_pos hc hd) fun j=>?_
 rw [QiW hr ho,QiW (by rw [QfY,hr]) (by rw [QfY,ho]),h1 j,h1 p,h2 j,h2 p,QkL]
 push_cast
 simp only [Int.one_mul,QkL,Qba,QfG,QhR]
theorem QyU {N used p i:Nat}{row own:List Int}(hr:row.length=N)(ho:own.length=N)(hu:i≠used):Qad (Qft N used p own i row)=Q5 N (Qad row) (Qad own) p:=by
 unfold Qft;rw [if_neg hu,Qzl hr ho]
def QuJ (row:List Int):Prop:=Qad row=row∨∀j,(vec row j).natAbs≤4
theorem QuJ.step {N used p i:Nat}{row own:List Int}(h:QuJ row):QuJ (Qft N used p own i row):=by
 unfold Qft Q5
 split
 ·exact h
 split
 ·exact h
 exact .inl (Qu5 _)
theorem QuJ.le {row:List Int}(h:QuJ row){B:Nat}(hB:4≤B)(hr:∀j,(vec (Qad row) j).natAbs≤B)(j:Nat):(vec row j).natAbs≤B:=by
 rcases h with h | h
 ·rw [←h];exact hr j
 exact QU (h j) hB
end Go.Proofs
noncomputable section
namespace Go.Proofs
open Go Go.RowKit Go.Vm
theorem Qz.le {m:QO}{x:Vec}(h:Qz (Qco m) x):∃a:Int,a≠0∧Qaf ((m.map pv).map Prod.snd) fun j=>a*x j:=h
def QfU (n:Nat)(m:QO)(y:List Int)(q:Nat):QO:=((q:Int),y)::m.map fun e=>(e.1,Q5 n e.2 y q)
theorem Slv.push {n q:Nat}{vs:List Vec}{m:QO}(h:Slv n vs m){v:Vec}(hv:∀j,(v j).natAbs≤4){y:List Int}(hyl:y.length=n)(hqn:q<n)(hyq:vec y q≠0)(hfirst:∀j,j<q→vec y j=0)
  (hyz:∀e∈m,vec y e.1.toNat=0) (hyp:QjU (vec y)) {al be:Int} (ha:al≠0) (hb:be≠0) (hrel:Qz (Qco m) fun j=>al*v j-be*vec y j):
  Slv n (v::vs) (QfU n m y q)∧∀x,Qz (Qco m) x→Qz (Qco (QfU n m y q)) x:=by
 obtain⟨rs,hsys,hperm⟩:=h.sys
 obtain⟨a,ha0,hsp⟩:=hrel
 let up:Nat×Vec→Vec:=fun u=>vec (Q5 n ((List.range n).map u.2) y q)
 have hrow:∀e∈m,(List.range n).map (vec e.2)=e.2:=fun e he=>by
  have hl2:=(h.keys e he).2.2.1
  refine Qnj (by simp [hl2]) fun j=>?_
  by_cases hj:j<n
  ·rw [Qfe (by simpa using hj)];simp
  rw [Qb9 (by simp;omega),Qb9 (by omega)]
 have hup:∀e∈m,up (pv e)=vec (Q5 n e.2 y q):=fun e he=>by
  show vec (Q5 n ((List.range n).map (vec e.2)) y q)=_
  rw [hrow e he]
 have upf:∀e∈m,up (pv e) q=0∧(∃g b c:Int,g≠0∧b≠0∧∀j,g*up (pv e) j=b*vec e.2 j-c*vec y j)∧(∀j,j<e.1.toNat→up (pv e) j=0):=fun e he=>by
  rw [hup e he]
  obtain⟨k1,k2,k3,k4⟩:=h.keys e he
  by_cases h0:vec e.2 q=0
  ·have hcl:Q5 n e.2 y q=e.2:=by unfold Q5;rw [if_pos h0]
   rw [hcl]
   exact⟨h0,⟨1,1,0,by decide,by decide,fun j=>by simp⟩,k4⟩
  obtain⟨c,hc,hcr⟩:=QpJ (k:=q) k3 hyl h0
  have hz:∀j,vec y q*vec e.2 j-vec e.2 q*vec y j=0→vec (Q5 n e.2 y q) j=0:=fun j e3=>by
   have:=hcr j
   rw [e3]at this
   exact(Qdm.1 this).resolve_left (by omega)
  refine⟨hz q (by rw [QfG];omega),⟨(c:Int),vec y q,vec e.2 q,by omega,hyq,hcr⟩,fun j hj=>hz j ?_⟩
  have hpq:e.1.toNat≤q:=by
   cases Qcv q e.1.toNat with
   | inl h3=>exact absurd (k4 q h3) h0
   | inr h3=>exact h3
  rw [k4 j hj,hfirst j (by omega)];simp
 have nsys:=hsys.add (v:=v) (y:=vec y) (q:=q) (al:=a*al) (be:=a*be) (QiY ha0 ha) (QiY ha0 hb) (by
   have e:(fun j=>a*al*v j-a*be*vec y j)=fun j=>a*(al*v j-be*vec y j):=by
    funext j;rw [QkL,Qba,Qba]
   rw [e]
   exact hsp.mono fun u hu=>.mem u (((hperm.map Prod.snd).mem_iff).2 hu)) (fun u hu=>by
   obtain⟨e,he,rfl⟩:=Qp.1 (hperm.mem_iff.1 hu)
   exact hyz e he) hyq hyp up (fun u hu=>by
   obtain⟨e,he,rfl⟩:=Qp.1 (hperm.mem_iff.1 hu)
   obtain⟨u1,u2,u3⟩:=upf e he
   refine⟨?_,u1,u2⟩
   rw [hup e he]
   refine(Qtm (.inl (h.prim he))).resolve_right fun hz=>?_
   obtain⟨g,b,c,hg,hb2,he2⟩:=u2
   have h1:=he2 e.1.toNat
   rw [hyz e he,hup e he,hz]at h1
   rw [Qc1,Qc1,Int.sub_zero]at h1
   rcases Qdm.1 h1.symm with h2 | h2
   ·exact hb2 h2
   exact h.red.ne (pv e) (Qp.2 ⟨e,he,rfl⟩) h2)
 have hp2:((q,vec y)::rs.map fun u=>(u.1,up u)).Perm ((QfU n m y q).map pv):=by
  unfold QfU
  rw [Qat,Qcj]
  refine List.Perm.cons _ ?_
  refine(hperm.map fun u=>(u.1,up u)).trans ?_
  rw [Qcj]
  refine List.Perm.of_eq (Qgc fun e he=>?_)
  show((pv e).1,up (pv e))=pv (e.1,Q5 n e.2 y q)
  rw [hup e he];rfl
 have vp:∀v,v∈((q,vec y)::rs.map fun u=>(u.1,up u)).map Prod.snd→v∈Qco (QfU n m y q):=fun v hv=>((hp2.map Prod.snd).mem_iff).1 hv
 refine⟨⟨fun e he=>?_,?_,⟨_,nsys,hp2⟩,?_⟩,fun x hx=>?_⟩
 ·unfold QfU at he
  rcases QY.1 he with rfl | he
  ·exact⟨by simp,by simpa using hqn,hyl,by simpa using hfirst⟩
  obtain⟨x,hx,rfl⟩:=Qp.1 he
  obtain⟨k1,k2,k3,k4⟩:=h.keys x hx
  refine⟨k1,k2,Qqn k3,fun j hj=>?_⟩
  have:=(upf x hx).2.2 j hj
  rw [hup x hx]at this
  exact this
 ·rw [←(hp2.map Prod.fst).nodup_iff]
  exact nsys.red.nd
 ·intro v2 hv2
  rcases QY.1 hv2 with rfl | hv2
  ·exact hv
  exact h.mag v2 hv2
 refine(Qz.keep (q:=q) (up:=up) (y:=vec y) (rs:=rs) (fun u hu=>?_) (hx.sub fun v hv=>((hperm.map Prod.snd).mem_iff).2 hv)).sub vp
 obtain⟨e,he,rfl⟩:=Qp.1 (hperm.mem_iff.1 hu)
 obtain⟨_,⟨g,b,c,_,hb2,he2⟩,_⟩:=upf e he
 exact⟨g,b,c,hb2,he2⟩
theorem Slv.rest_le {n p:Nat}{vs:List Vec}{m:QO}(h:Slv n vs m)(hn:n≤8)(hp:p<n)(hk:∀e∈m,e.1.toNat<p){v:Vec}(hv:∀j,(v j).natAbs≤4){y:List Int}(hyl:y.length=n)(hz:∀j,j<p→vec y j=0)
  (hyp:QjU (vec y)) {al be:Int} (ha:al≠0) (hb:be≠0) (hrel:Qz (Qco m) fun j=>al*v j-be*vec y j) (j:Nat):(vec y j).natAbs≤82575360:=by
 obtain⟨rs,hsys,hperm⟩:=h.sys
 have nd:=h.nd
 have hml:m.length≤p:=by
  have:=Qmn p (l:=(m.map pv).map Prod.fst) nd fun x hx=>by
   obtain⟨u,hu,rfl⟩:=Qp.1 hx
   obtain⟨e,he,rfl⟩:=Qp.1 hu
   exact hk e he
  simpa using this
 by_cases h7:m.length=7
 ·have hone:(vec y j).natAbs≤1:=by
   by_cases hj:j=7
   ·subst hj
    have:=hyp (vec y 7).natAbs fun i=>by
     by_cases hi:i=7
     ·rw [hi];exact Nat.dvd_refl _
     have:vec y i=0:=by
      by_cases hi2:i<7
      ·exact hz i (by omega)
      exact Qb9 (by omega)
     rw [this];exact Nat.dvd_zero _
    omega
   have:vec y j=0:=by
    by_cases hi2:j<7
    ·exact hz j (by omega)
    exact Qb9 (by omega)
   rw [this];decide
  omega
 have hvl:=h.vlen
 obtain⟨a,ha0,hsp⟩:=hrel
 have:=hsys.mid (m:=4) (B:=fac vs.length*4 ^ vs.length) (Qa4 _) h.mag hv (w:=vec y) (al:=a*al) (be:=a*be) (QiY ha0 ha) (QiY ha0 hb) (S:=m.map pv) (fun u hu=>hperm.mem_iff.2 hu) nd (by
  have e:(fun j=>a*al*v j-a*be*vec y j)=fun j=>a*(al*v j-be*vec y j):=by
   funext j;rw [QkL,Qba,Qba]
  rw [e];exact hsp) (fun u hu=>by
  obtain⟨e,he,rfl⟩:=Qp.1 hu
  exact hz _ (hk e he)) hyp j
 refine QU this ?_
 rw [Qgb,hvl]
 have hle:m.length≤6:=by omega
 generalize m.length=k at hle
 match k,hle with
 | 0,_=>decide
 | 1,_=>decide
 | 2,_=>decide
 | 3,_=>decide
 | 4,_=>decide
 | 5,_=>decide
 | 6,_=>decide
end Go.Proofs
noncomputable section
namespace Go.Proofs
open Go Go.RowKit Go.Vm
def sw (a k i:Nat):Nat:=if i=k then a else if i=a then k else i
def Qgv {α:Type}(l:List α)(a k:Nat)(x y:α):List α:=(l.set a y).set k x
theorem QlK {α:Type}{l:List α}{a k:Nat}{x y:α}(ha:l[a]? = some x)(hk:l[k]? = some y)(i:Nat):(Qgv l a k x y)[i]? = l[sw a k i]? := by
 have h1:=(QC.1 ha).1
 have h2:=(QC.1 hk).1
 unfold Qgv sw
 rw [Qi0]
 by_cases e1:k=i
 ·subst e1
  rw [if_pos rfl,if_pos (by simpa using h2),if_pos rfl,ha]
 rw [if_neg e1,if_neg (Ne.symm e1),Qi0]
 by_cases e2:a=i
 ·subst e2
  rw [if_pos rfl,if_pos h1,if_pos rfl,hk]
 rw [if_neg e2,if_neg (Ne.symm e2)]
theorem QAo {a k:Nat}(i:Nat):sw a k (sw a k i)=i:=by
 unfold sw
 by_cases h1:i=k
 ·subst h1
  rw [if_pos rfl]
  by_cases h2:a=i
  ·subst h2;rw [if_pos rfl]
  rw [if_neg h2,if_pos rfl]
 rw [if_neg h1]
 by_cases h2:i=a
 ·subst h2;rw [if_pos rfl,if_pos rfl]
 rw [if_neg h2,if_neg h1,if_neg h2]
theorem Qwf {α:Type}{l:List α}{a k:Nat}{x y:α}(ha:l[a]? = some x)(hk:l[k]? = some y)(v:α):v∈Qgv l a k x y↔v∈l:=by
 rw [Qge,Qge]
 constructor
 ·rintro ⟨i,hi⟩
  rw [QlK ha hk]at hi
  exact⟨_,hi⟩
 rintro ⟨i,hi⟩
 exact⟨sw a k i,by rw [QlK ha hk,QAo];exact hi⟩
structure DI (N:Nat) (O:List Vec) (p k:Nat) (l:List (List Int)) (pv:List Int) (g vs:List Vec) (m:QO):Prop where
 len:∀row∈l,row.length=N
 gl:g.length=l.length
 kl:k≤l.length
 pl:pv.length=N
 slv:Slv N vs m
 ml:m.length=k
 key:∀e∈m,e.1.toNat<p
 piv:∀q:Nat,q<p→(∃(u:Nat) (row:List Int),pv[q]? = some (u:Int)∧u<k∧l[u]? = some row∧((q:Int),Qad row)∈m)∨(pv[q]? = some (-1)∧(q:Int) ∉ m.map Prod.fst)
 top:∀(u:Nat) (row:List Int),u<k→l[u]? = some row→∃q:Int,(q,Qad row)∈m
 rest:∀(i:Nat) (row:List Int) (v:Vec),k≤i→l[i]? = some row→g[i]? = some v→(∀j,j<p→vec row j=0)∧∃al be:Int,al≠0∧be≠0∧Qz (Qco m) fun j=>al*v j-be*vec row j
 gv:∀(u:Nat) (v:Vec),u<k→g[u]? = some v→v∈vs
 gO:∀v,v∈g↔v∈O
 vO:∀v∈vs,v∈O
 tidy:∀row∈l,QuJ row
section
variable {N:Nat}{O:List Vec}{p k:Nat}{l:List (List Int)}{pv:List Int}{g vs:List Vec}{m:QO}
theorem DI.at_ (h:DI N O p k l pv g vs m){i:Nat}{row:List Int}(hi:l[i]? = some row):∃v,g[i]? = some v∧v∈O:=by
 have h1:=(QC.1 hi).1
 have h2:i<g.length:=by rw [h.gl];exact h1
 exact⟨g[i],QD h2,(h.gO _).1 (Qbb h2)⟩
theorem DI.mag (h:DI N O p k l pv g vs m)(hO:∀v∈O,∀j,(v j).natAbs≤4)(hN:N≤8)(hp:p<N){row:List Int}(hr:row∈l)(j:Nat):(vec row j).natAbs≤82575360:=by
 refine(h.tidy row hr).le (by decide) (fun j=>?_) j
 obtain⟨i,hi⟩:=Qge.1 hr
 by_cases hk:i<k
 ·obtain⟨q,hq⟩:=h.top i row hk hi
  exact h.slv.le hN hq j
 obtain⟨v,hv,hvO⟩:=h.at_ hi
 obtain⟨hz,al,be,ha,hb,hs⟩:=h.rest i row v (by omega) hi hv
 by_cases hne:∃j,vec row j≠0
 ·obtain⟨c,hc,hcr⟩:=Qem row
  refine h.slv.rest_le hN hp h.key (hO v hvO) (by rw [QfY];exact h.len row hr) (fun j hj=>QgR.2 (hz j hj)) (QkI hne) ha (be:=be*(c:Int)) (QiY hb (by omega)) ?_ j
  have e:(fun j=>al*v j-be*(c:Int)*vec (Qad row) j)=fun j=>al*v j-be*vec row j:=by
   funext j;rw [hcr j,Qba]
  rw [e];exact hs
 have:vec (Qad row) j=0:=QgR.2 (Classical.byContradiction fun e=>hne ⟨j,e⟩)
 rw [this];decide
theorem DI.fits (h:DI N O p k l pv g vs m)(hO:∀v∈O,∀j,(v j).natAbs≤4)(hN:N≤8)(hp:p<N){row own:List Int}(hr:row∈l)(ho:own∈l):Qxr row own p:=fun j=>by
 have b1:∀a b:Nat,a≤82575360→b≤82575360→a*b≤4611686018427387903:=fun a b ha hb=>QU (QkS ha hb) (by decide)
 rw [Qd5,Qd5]
 exact⟨b1 _ _ (h.mag hO hN hp hr _) (h.mag hO hN hp ho _),b1 _ _ (h.mag hO hN hp ho _) (h.mag hO hN hp hr _)⟩
theorem DI.skip (h:DI N O p k l pv g vs m)(hp:p<N)(hz:∀(i:Nat) row,k≤i→l[i]? = some row→vec row p=0):DI N O (p+1) k l (pv.set p (-1)) g vs m:=by
 refine { h with pl:=by rw [QkO];exact h.pl,key:=fun e he=>by have:=h.key e he;omega,piv:=fun q hq=>?_,rest:=fun i row v hi h1 h2=>?_ }
 ·by_cases e:p=q
  ·subst e
   refine .inr ⟨by rw [Qi0,if_pos rfl,if_pos (by rw [h.pl];exact hp)],fun hm=>?_⟩
   obtain⟨e,he,e2⟩:=Qp.1 hm
   have:=h.key e he
   rw [e2]at this;simp at this
  rw [Qi0,if_neg e]
  exact h.piv q (by omega)
 obtain⟨a,b⟩:=h.rest i row v hi h1 h2
 refine⟨fun j hj=>?_,b⟩
 by_cases e:j=p
 ·subst e;exact hz i row hi h1
 exact a j (by omega)
end
end Go.Proofs
noncomputable section
namespace Go.Proofs
open Go Go.RowKit Go.Vm
theorem Qx8 {N used p i:Nat}{own row:List Int}(h:row.length=N):(Qft N used p own i row).length=N:=by
 unfold Qft;split
 ·exact h
 exact Qqn h
section
variable {N:Nat}{O:List Vec}{p k:Nat}{l:List (List Int)}{pv:List Int}{g vs:List Vec}{m:QO}
theorem DI.push (h:DI N O p k l pv g vs m)(hO:∀v∈O,∀j,(v j).natAbs≤4)(hN:N≤8)(hp:p<N){a:Nat}{own rk:List Int}{v vk:Vec}(hak:k≤a)(ha:l[a]? = some own)(hk:l[k]? = some rk)(hv:g[a]? = some v)(hvk:g[k]? = some vk)(hne:vec own p≠0):
  DI N O (p+1) (k+1) (Qfu N k p own (Qgv l a k own rk)) ((pv.set p (-1)).set p (k:Int)) (Qgv g a k v vk) (v::vs) (QfU N m (Qad own) p):=by
 have ownl:own.length=N:=h.len own (QX ha)
 have hvO:v∈O:=(h.gO v).1 (QX hv)
 obtain⟨oz,al,be,hal,hbe,hsp⟩:=h.rest a own v hak ha hv
 obtain⟨c,hc,hcr⟩:=Qem own
 have yz:∀j,j<p→vec (Qad own) j=0:=fun j hj=>QgR.2 (oz j hj)
 obtain⟨ns,nk⟩:=h.slv.push (hO v hvO) (y:=Qad own) (by rw [QfY];exact ownl) hp (fun e=>hne (QgR.1 e)) yz (fun e he=>yz _ (h.key e he)) (QkI ⟨p,hne⟩) hal (be:=be*(c:Int)) (QiY hbe (by omega)) (by
  have e:(fun j=>al*v j-be*(c:Int)*vec (Qad own) j)=fun j=>al*v j-be*vec own j:=by
   funext j;rw [hcr j,Qba]
  rw [e];exact hsp)
 have hget:∀i,(Qfu N k p own (Qgv l a k own rk))[i]? = l[sw a k i]?.map (Qft N k p own i):=fun i=>by
  rw [Qu4,QlK ha hk]
 have ysp:Qz (Qco (QfU N m (Qad own) p)) (vec own):=by
  have h1:Qz (Qco (QfU N m (Qad own) p)) (vec (Qad own)):=.of (.mem _ (by unfold Qco QfU;rw [Qat,Qat];exact Q6))
  have h2:=Qz.lin (c:Int) 0 h1 h1
  have e:(fun j=>(c:Int)*vec (Qad own) j+0*vec (Qad own) j)=vec own:=by
   funext j;rw [hcr j];simp
  rw [e]at h2;exact h2
 have swl:∀u,u<k→sw a k u=u:=fun u hu=>by
  unfold sw;rw [if_neg (by omega),if_neg (by omega)]
 have swk:sw a k k=a:=by unfold sw;rw [if_pos rfl]
 have swg:∀i,k+1≤i→k≤sw a k i:=fun i hi=>by
  unfold sw;rw [if_neg (by omega)];split<;>omega
 have low:∀(u:Nat) (row:List Int),u<k→l[u]? = some row→(Qfu N k p own (Qgv l a k own rk))[u]? = some (Qft N k p own u row)∧Qad (Qft N k p own u row)=Q5 N (Qad row) (Qad own) p:=fun u row hu hr=>by
  refine⟨by rw [hget,swl u hu,hr];rfl,QyU (h.len row (QX hr)) ownl (by omega)⟩
 have atk:(Qfu N k p own (Qgv l a k own rk))[k]? = some own:=by
  rw [hget,swk,ha]
  show some (Qft N k p own k own)=_
  unfold Qft;rw [if_pos rfl]
 have inm:∀(q:Int) (r:List Int),(q,r)∈m→(q,Q5 N r (Qad own) p)∈QfU N m (Qad own) p:=fun q r hm=>by
  unfold QfU
  exact Qag _ (Qp.2 ⟨(q,r),hm,rfl⟩)
 refine { len:=fun row hr=>?_,gl:=?_,kl:=?_,pl:=?_,slv:=ns,ml:=?_,key:=fun e he=>?_,piv:=fun q hq=>?_,top:=fun u row hu hr=>?_,rest:=fun i row w hi hr hw=>?_,gv:=fun u w hu hw=>?_,gO:=fun w=>?_,vO:=fun w hw=>?_,tidy:=fun row hr=>?_ }
 ·obtain⟨i,hi⟩:=Qge.1 hr
  rw [hget]at hi
  obtain⟨r,h1,rfl⟩:=QV.1 hi
  exact Qx8 (h.len r (QX h1))
 ·simp only [Qfu,Qgv,List.length_mapIdx,QkO];exact h.gl
 ·simp only [Qfu,Qgv,List.length_mapIdx,QkO]
  have:=(QC.1 hk).1
  omega
 ·simp only [QkO];exact h.pl
 ·unfold QfU;simp [h.ml]
 ·unfold QfU at he
  rcases QY.1 he with rfl | he
  ·simp
  obtain⟨x,hx,rfl⟩:=Qp.1 he
  have:=h.key x hx
  show x.1.toNat<p+1
  omega
 ·by_cases e:q=p
  ·subst e
   refine .inl ⟨k,own,by rw [Qi0,if_pos rfl,if_pos (by rw [QkO,h.pl];exact hp)],by omega,atk,?_⟩
   unfold QfU;exact Q6
  rw [Qi0,if_neg (Ne.symm e),Qi0,if_neg (Ne.symm e)]
  rcases h.piv q (by omega)with⟨u,row,h1,h2,h3,h4⟩|⟨h1,h2⟩
  ·obtain⟨l1,l2⟩:=low u row h2 h3
   exact .inl ⟨u,_,h1,by omega,l1,by rw [l2];exact inm _ _ h4⟩
  refine .inr ⟨h1,fun hm=>?_⟩
  unfold QfU at hm
  rw [Qat]at hm
  rcases QY.1 hm with hm | hm
  ·have hm:(q:Int)=(p:Int):=hm
   omega
  rw [Qcj]at hm
  exact h2 hm
 ·by_cases e:u=k
  ·subst e
   rw [atk]at hr;cases hr
   exact⟨(p:Int),by unfold QfU;exact Q6⟩
  have hu2:u<k:=by omega
  rw [hget,swl u hu2]at hr
  obtain⟨r,h1,rfl⟩:=QV.1 hr
  obtain⟨q,hq⟩:=h.top u r hu2 h1
  exact⟨q,by rw [(low u r hu2 h1).2];exact inm _ _ hq⟩
 ·rw [hget]at hr
  rw [QlK hv hvk]at hw
  obtain⟨r,h1,rfl⟩:=QV.1 hr
  obtain⟨rz,x,y,hx,hy,hs⟩:=h.rest _ r w (swg i hi) h1 hw
  have rl:=h.len r (QX h1)
  have est:Qft N k p own i r=Q5 N r own p:=by unfold Qft;rw [if_neg (by omega)]
  rw [est]
  by_cases h0:vec r p=0
  ·have ecl:Q5 N r own p=r:=by unfold Q5;rw [if_pos h0]
   rw [ecl]
   refine⟨fun j hj=>?_,x,y,hx,hy,nk _ hs⟩
   by_cases e:j=p
   ·subst e;exact h0
   exact rz j (by omega)
  obtain⟨d,hd,hdr⟩:=QpJ (k:=p) rl ownl h0
  refine⟨fun j hj=>?_,vec own p*x,y*(d:Int),QiY hne hx,QiY hy (by omega),?_⟩
  ·have:=hdr j
   have hz:vec own p*vec r j-vec r p*vec own j=0:=by
    by_cases e:j=p
    ·subst e;rw [QfG];omega
    rw [rz j (by omega),oz j (by omega)];simp
   rw [hz]at this
   exact(Qdm.1 this).resolve_left (by omega)
  have h2:=Qz.lin (vec own p) (y*vec r p) (nk _ hs) ysp
  have e:(fun j=>vec own p*(x*w j-y*vec r j)+y*vec r p*vec own j)=fun j=>vec own p*x*w j-y*(d:Int)*vec (Q5 N r own p) j:=by
   funext j
   rw [Qba y (d:Int),hdr j]
   simp only [QkL,Qba,QhR]
   omega
  rw [e]at h2;exact h2
 ·rw [QlK hv hvk]at hw
  by_cases e:u=k
  ·subst e
   rw [swk,hv]at hw;cases hw
   exact Q6
  rw [swl u (by omega)]at hw
  exact Qag _ (h.gv u w (by omega) hw)
 ·rw [Qwf hv hvk];exact h.gO w
 ·rcases QY.1 hw with rfl | hw
  ·exact hvO
  exact h.vO w hw
 obtain⟨i,hi⟩:=Qge.1 hr
 rw [hget]at hi
 obtain⟨r,h1,rfl⟩:=QV.1 hi
 exact(h.tidy r (QX h1)).step
end
end Go.Proofs
noncomputable section
namespace Go.Proofs
open Go Go.RowKit Go.Vm
theorem QAp {l:List (List Int)}{N p k:Nat}(hr:∀row∈l,row.length=N)(hp:p<N)(hk:k≤l.length)(hl:l.length≤4000000):
  ∃a:Nat,Qq (fun st=>Qcq l (p:Int) st) (k:Int)=some (a:Int)∧k≤a∧(∀(i:Nat) row,k≤i→i<a→l[i]? = some row→vec row p=0)∧(a=l.length∨∃own,l[a]? = some own∧vec own p≠0):=by
 have mx:(4000000:Nat)≤maxLen:=by decide
 obtain⟨r,hr1,hr2⟩:=Qxw (body:=fun st=>Qcq l (p:Int) st) (I:=fun s=>∃a:Nat,s=(a:Int)∧k≤a∧a≤l.length∧∀(i:Nat) row,k≤i→i<a→l[i]? = some row→vec row p=0) (μ:=fun s=>l.length-s.toNat)
  (Post:=fun r=>∃a:Nat,r=(a:Int)∧k≤a∧(∀(i:Nat) row,k≤i→i<a→l[i]? = some row→vec row p=0)∧(a=l.length∨∃own,l[a]? = some own∧vec own p≠0)) (fun s hs=>by
   obtain⟨a,rfl,h1,h2,h3⟩:=hs
   show(∃s',Qcq l (p:Int) (a:Int)=_∧_)∨∃r,Qcq l (p:Int) (a:Int)=_∧_
   unfold Qcq QmS
   by_cases ha:a<l.length
   ·have hx:l[a]? = some l[a]:=QD ha
    have hxl:=hr _ (Qbb ha)
    rw [Qaa (show(a:Int)<(l.length:Int) by omega),cond_true,QB,hx,Qh,QB,QaM (row:=l[a]) (by omega),Qh,Qh]
    unfold Qer
    by_cases h0:vec l[a] p=0
    ·left
     rw [show(vec l[a] p==0)=true by simpa using h0,cond_true,Qx ha (by omega)]
     refine⟨_,rfl,⟨a+1,rfl,by omega,by omega,fun i row hi1 hi2 hrow=>?_⟩,by simp;omega⟩
     by_cases e:i=a
     ·subst e;rw [hx]at hrow;cases hrow;exact h0
     exact h3 i row hi1 (by omega) hrow
    right
    rw [show(vec l[a] p==0)=false by simpa using h0,cond_false]
    exact⟨_,rfl,a,rfl,h1,h3,.inr ⟨_,hx,h0⟩⟩
   right
   rw [Q9 (show ¬(a:Int)<(l.length:Int) by omega),cond_false,Qh]
   unfold Qer
   exact⟨_,rfl,a,rfl,h1,h3,.inl (by omega)⟩) (k:Int) ⟨k,rfl,Qa4 _,hk,fun i row h1 h2=>by omega⟩
 obtain⟨a,rfl,h⟩:=hr2
 exact⟨a,hr1,h⟩
theorem QAP {n:Qm}{O:List Vec}{p k:Nat}{l:List (List Int)}{pv:List Int}{g vs:List Vec}{m:QO}(h:DI n.Places.length O p k l pv g vs m)(hO:∀v∈O,∀j,(v j).natAbs≤4)(hN:n.Places.length≤8)(hp:p<n.Places.length)(hl:l.length≤4000000):
  ∃(k':Nat) (l':List (List Int)) (pv':List Int) (g' vs':List Vec) (m':QO),QbV n (k:Int) (p:Int) l pv=some (.inl ((k':Int),((p+1:Nat):Int),l',pv'))∧DI n.Places.length O (p+1) k' l' pv' g' vs' m'∧l'.length=l.length:=by
 have mx:(4000000:Nat)≤maxLen:=by decide
 obtain⟨a,e1,a1,a2,a3⟩:=QAp h.len hp h.kl hl
 have hpl:p<pv.length:=by rw [h.pl];exact hp
 have hpw:w64 ((p:Int)+1)=((p+1:Nat):Int):=Qx hp (by omega)
 unfold QbV
 rw [Qaa (show(p:Int)<(n.Places.length:Int) by omega),cond_true,QB,QD hpl,Qh,e1,Qh]
 unfold QjN Qfc
 rcases a3 with a3 | ⟨own,a3,a4⟩
 ·rw [Qaa (show(l.length:Int)≤(a:Int) by omega),cond_true,hpw,Qff]
  exact⟨k,l,_,g,vs,m,rfl,h.skip hp (fun i row hi hrow=>a2 i row hi (by rw [a3];exact(QC.1 hrow).1) hrow),rfl⟩
 have al:=(QC.1 a3).1
 have hk:l[k]? = some l[k]:=QD (by omega)
 obtain⟨v,hv,_⟩:=h.at_ a3
 obtain⟨vk,hvk,_⟩:=h.at_ hk
 have np:=h.push hO hN hp a1 a3 hk hv hvk a4
 have hsw:∀i,(Qgv l a k own l[k])[i]? = l[sw a k i]? := fun i=>QlK a3 hk i
 have hmem:∀row,row∈Qgv l a k own l[k]→row∈l:=fun row=>(Qwf a3 hk row).1
 have hlen:(Qgv l a k own l[k]).length=l.length:=by simp [Qgv]
 have e2:=QyT (n:=n) (used:=k) (p:=p) (own:=own) (l:=Qgv l a k own l[k]) (fun row hr=>h.len row (hmem row hr)) (h.len own (QX a3)) hp (by omega) (fun i row hi hu=>h.fits hO hN hp (hmem row (QX hi)) (QX a3)) (by rw [hlen];exact hl)
 have hkw:w64 ((k:Int)+1)=((k+1:Nat):Int):=Qx (n:=l.length) (by omega) (by omega)
 have g1:(l.set a l[k])[k]? = some l[k]:=by
  rw [Qi0]
  by_cases e:a=k
  ·rw [if_pos e,if_pos al]
  rw [if_neg e];exact hk
 have g2:(pv.set p (-1))[p]? = some (-1):=by rw [Qi0,if_pos rfl,if_pos hpl]
 rw [Q9 (show ¬(l.length:Int)≤(a:Int) by omega),cond_false,QB,a3,Qh,QB,hk,Qh,Qh,Qff,QB,g1,Qh,Qff]
 rw [show Qq (fun st=>Qbq (k:Int) (p:Int) n own st.1 st.2) (0,(l.set a l[k]).set k own)=_ from e2,Qh]
 unfold QjM Qfc
 rw [Qff,QB,g2,Qh,hkw,hpw]
 exact⟨k+1,_,_,_,_,_,rfl,np,by simp [Qfu,Qgv]⟩
end Go.Proofs
noncomputable section
namespace Go.Proofs
open Go Go.RowKit Go.Vm
theorem DI.start {N:Nat}{l:List (List Int)}(hr:∀row∈l,row.length=N)(hs:∀row∈l,∀j,(vec row j).natAbs≤4):DI N (l.map vec) 0 0 l (List.replicate N 0) (l.map vec) [] []:=by
 refine { len:=hr,gl:=(by simp),kl:=(by omega),pl:=(by simp),slv:=Slv.nil N,ml:=rfl,key:=fun e he=>(by cases he),piv:=fun q hq=>(by omega),top:=fun u row hu _=>(by omega),rest:=fun i row v _ h1 h2=>⟨fun j hj=>by omega,1,1,by decide,by decide,?_⟩,gv:=fun u v hu _=>(by omega),gO:=fun v=>Iff.rfl,vO:=fun v hv=>(by cases hv),tidy:=fun row h=>.inr (hs row h) }
 rw [Q8,h1]at h2
 cases h2
 have e:(fun j=>(1:Int)*vec row j-1*vec row j)=fun _=>0:=by funext j;omega
 rw [e];exact Qz.zero
theorem QAq {n:Qm}{l:List (List Int)}(hN:n.Places.length≤8)(hr:∀row∈l,row.length=n.Places.length)(hs:∀row∈l,∀j,(vec row j).natAbs≤4)(hl:l.length≤4000000):
  ∃(l':List (List Int)) (pv:List Int),Qq (fun st=>QbV n st.1 st.2.1 st.2.2.1 st.2.2.2) (0,0,l,List.replicate (n.Places.length:Int).toNat (0:Int))=some (l',pv)∧∃(k:Nat) (g vs:List Vec) (m:QO),DI n.Places.length (l.map vec) n.Places.length k l' pv g vs m:=by
 have mx:(4000000:Nat)≤maxLen:=by decide
 have hO:∀v∈l.map vec,∀j,(v j).natAbs≤4:=fun v hv=>by
  obtain⟨row,h1,rfl⟩:=Qp.1 hv
  exact hs row h1
 have h:=QbB (body:=fun st:Int×Int×List (List Int)×List Int=>QbV n st.1 st.2.1 st.2.2.1 st.2.2.2) n.Places.length
  (fun p s=>s.2.1=(p:Int)∧∃(k:Nat) (g vs:List Vec) (m:QO),s.1=(k:Int)∧s.2.2.1.length=l.length∧DI n.Places.length (l.map vec) p k s.2.2.1 s.2.2.2 g vs m)
  (fun r:List (List Int)×List Int=>∃(k:Nat) (g vs:List Vec) (m:QO),DI n.Places.length (l.map vec) n.Places.length k r.1 r.2 g vs m) (fun p s hp hs=>by
   obtain⟨a,b,l1,pv1⟩:=s
   obtain⟨h1,k,g,vs,m,h2,h3,h4⟩:=hs
   have h1:b=(p:Int):=h1
   have h2:a=(k:Int):=h2
   subst h1 h2
   have h3:l1.length=l.length:=h3
   left
   obtain⟨k',l',pv',g',vs',m',e1,e2,e3⟩:=QAP h4 hO hN hp (by show l1.length≤_;omega)
   exact⟨_,e1,rfl,k',g',vs',m',rfl,by show l'.length=_;rw [e3];exact h3,e2⟩) (fun s hs=>by
   obtain⟨a,b,l1,pv1⟩:=s
   obtain⟨h1,k,g,vs,m,h2,h3,h4⟩:=hs
   have h1:b=(n.Places.length:Int):=h1
   subst h1
   refine⟨(l1,pv1),?_,k,g,vs,m,h4⟩
   show QbV n a (n.Places.length:Int) l1 pv1=_
   unfold QbV
   rw [Q9 (by omega)];rfl) (0,0,l,List.replicate (n.Places.length:Int).toNat (0:Int)) ⟨rfl,0,l.map vec,[],[],rfl,rfl,DI.start hr hs⟩
 obtain⟨r,hr1,hr2⟩:=h
 exact⟨r.1,r.2,hr1,hr2⟩
theorem DI.span {N k:Nat}{O:List Vec}{l:List (List Int)}{pv:List Int}{g vs:List Vec}{m:QO}(h:DI N O N k l pv g vs m):∀v∈O,Qz (Qco m) v:=fun v hv=>by
 obtain⟨i,hi⟩:=Qge.1 ((h.gO v).2 hv)
 have hil:i<l.length:=by rw [←h.gl];exact(QC.1 hi).1
 by_cases hk:i<k
 ·obtain⟨rs,hsys,hperm⟩:=h.slv.sys
  exact(hsys.spn v (h.gv i v hk hi)).sub fun u hu=>((hperm.map Prod.snd).mem_iff).1 hu
 obtain⟨hz,al,be,ha,hb,hs⟩:=h.rest i _ v (by omega) (QD hil) hi
 have e:(fun j=>al*v j-be*vec l[i] j)=fun j=>al*v j:=by
  funext j
  have:vec l[i] j=0:=by
   by_cases hj:j<N
   ·exact hz j hj
   exact Qb9 (by rw [h.len _ (Qbb hil)];omega)
  rw [this,Qc1,Int.sub_zero]
 rw [e]at hs
 exact Qz.div ha hs
end Go.Proofs
noncomputable section
namespace Go.Proofs
open Go Go.RowKit Go.Vm
theorem QjV.back {vs:List Vec}{rs:Piv}(h:QjV vs rs){q:Nat×Vec}(hq:q∈rs):Qz vs q.2:=by
 obtain⟨p,s,e⟩:=QpN hq
 obtain⟨t,t1,_,t3⟩:=h.cram e
 refine⟨t,t1,?_⟩
 have:=(Qaf.det vs (p.map Prod.fst++s.map Prod.fst)).smul (sg (p.map Prod.fst))
 have e2:(fun j=>t*q.2 j)=fun j=>sg (p.map Prod.fst)*Vm.det vs (j::(p.map Prod.fst++s.map Prod.fst)):=by
  funext j;rw [←t3 j];exact QeG.front _ (Qoc vs) j _
 rw [e2];exact this
theorem Slv.back {n:Nat}{vs:List Vec}{m:QO}(h:Slv n vs m){e:Int×List Int}(he:e∈m):Qz vs (vec e.2):=by
 obtain⟨rs,hsys,hperm⟩:=h.sys
 exact QjV.back hsys (q:=Proofs.pv e) (hperm.mem_iff.2 (Qp.2 ⟨e,he,rfl⟩))
theorem Qwg {k:Int}{v:List Int}{e:Int×List Int}:∀{m:QO},e∈QhK m k v→e=(k,v)∨e∈m
 | [],h=>by cases h
 | (b,x)::m,h=>by
  unfold QhK at h
  split at h
  ·rcases QY.1 h with h | h
   ·exact .inl h
   exact .inr (Qag _ h)
  rcases QY.1 h with h | h
  ·exact .inr (by rw [h];exact Q6)
  exact(Qwg h).imp_right (Qag _)
theorem QyV {m:QO}{k:Int}{v:List Int}{e:Int×List Int}(h:e∈Qb7 ltI m k v):e=(k,v)∨e∈m:=by
 unfold Qb7 at h
 split at h
 ·exact Qwg h
 exact QY.1 ((mins_perm _ _ _ _).mem_iff.1 h)
theorem Qzm {n:Nat}{vs:List Vec}{m:QO}(h:Slv n vs m)(hn:n≤8){row:List Int}(hl:row.length=n)(hv:∀j,(vec row j).natAbs≤4):∀e∈QrJ n m row,Qz (vec row::Qco m) (vec e.2):=by
 obtain⟨r1,r2⟩:=Qx3 h hn hl hv
 unfold QrJ
 obtain⟨y,hy⟩:∃y,QiX n (Qad row) m=y:=⟨_,rfl⟩
 rw [hy]at r1 r2 ⊢
 have old:∀e∈m,Qz (vec row::Qco m) (vec e.2):=fun e he=>.of (.mem _ (Qag _ (Qp.2 ⟨Proofs.pv e,Qp.2 ⟨e,he,rfl⟩,rfl⟩)))
 cases hs:Qct (fun _ x=>x != 0) 0 y with
 | none=>exact old
 | some q=>
  have ysp:Qz (vec row::Qco m) (vec y):=by
   obtain⟨be,hb,hrel⟩:=r2.rel
   have h1:Qz (vec row::Qco m) fun j=>Qdb (vec row) m*vec row j-(be:Int)*vec y j:=Qz.sub (vs:=Qco m) (fun v hv=>Qag _ hv) (.of hrel)
   have h2:=Qz.lin (Qdb (vec row) m) (-1) (Qz.of (.mem (vec row) Q6)) h1
   refine Qz.div (a:=(be:Int)) (by omega) ?_
   have e:(fun j=>Qdb (vec row) m*vec row j+-1*(Qdb (vec row) m*vec row j-(be:Int)*vec y j))=fun j=>(be:Int)*vec y j:=by funext j;omega
   rw [e]at h2;exact h2
  intro e he
  have hm:e∈Qb7 ltI (m.map fun e=>(e.1,Q5 n e.2 y q)) (q:Int) y:=he
  have cl:∀x∈m,Qz (vec row::Qco m) (vec (Q5 n x.2 y q)):=fun x hx=>by
   by_cases h0:vec x.2 q=0
   ·have hcl:Q5 n x.2 y q=x.2:=by unfold Q5;rw [if_pos h0]
    rw [hcl];exact old x hx
   obtain⟨c,hc,hcr⟩:=QpJ (k:=q) (h.keys x hx).2.2.1 r2.len h0
   have h2:=Qz.lin (vec y q) (-(vec x.2 q)) (old x hx) ysp
   refine Qz.div (a:=(c:Int)) (by omega) ?_
   have e:(fun j=>vec y q*vec x.2 j+-(vec x.2 q)*vec y j)=fun j=>(c:Int)*vec (Q5 n x.2 y q) j:=by
    funext j;rw [hcr j,Int.neg_mul];omega
   rw [e]at h2;exact h2
  have hk:e.2=y∨∃x∈m,e.2=Q5 n x.2 y q:=by
   rcases QyV hm with hm | hm
   ·exact .inl (by rw [hm])
   obtain⟨x,hx,rfl⟩:=Qp.1 hm
   exact .inr ⟨x,hx,rfl⟩
  rcases hk with hk | ⟨x,hx,hk⟩
  ·rw [hk];exact ysp
  rw [hk];exact cl x hx
end Go.Proofs
noncomputable section
namespace Go.Proofs
open Go Go.RowKit Go.Vm
theorem Qwh : ∀{l:List Int},(∀x∈l,x=0)→l.sum=0
 | [],_=>rfl
 | a::l,h=>by rw [List.sum_cons,h a Q6,Qwh fun x hx=>h x (Qag _ hx)];rfl
section
variable {n:Nat}{vs ws:List Vec}{m k:QO}
theorem Slv.keys_in (h:Slv n vs m)(h':Slv n ws k)(hin:∀e∈m,Qz (Qco k) (vec e.2)):∀e∈m,∃f∈k,f.1=e.1:=fun e he=>by
 refine Classical.byContradiction fun hno=>?_
 obtain⟨a,ha,hs⟩:=hin e he
 obtain⟨c,hc⟩:=Qaf.comb (rs:=k.map Proofs.pv) h'.nd hs
 obtain⟨k1,k2,k3,k4⟩:=h.keys e he
 have hz:comb c (k.map Proofs.pv) e.1.toNat=0:=by
  unfold comb
  refine Qwh fun x hx=>?_
  obtain⟨u,hu,rfl⟩:=Qp.1 hx
  obtain⟨f,hf,rfl⟩:=Qp.1 hu
  obtain⟨f1,f2,f3,f4⟩:=h'.keys f hf
  show c f.1.toNat*vec f.2 e.1.toNat=0
  by_cases hlt:f.1.toNat<e.1.toNat
  ·have:=hc f.1.toNat
   have hca:comb c (k.map Proofs.pv) f.1.toNat=c f.1.toNat*vec f.2 f.1.toNat:=QuH h'.red c hu
   rw [hca,k4 _ hlt,Qc1]at this
   rw [(Qdm.1 this.symm).resolve_right (h'.ne hf),Int.zero_mul]
  by_cases heq:f.1.toNat=e.1.toNat
  ·exact absurd ⟨f,hf,by rw [f1,k1,heq]⟩ hno
  rw [f4 _ (by omega),Qc1]
 have:=hc e.1.toNat
 rw [hz]at this
 rcases Qdm.1 this with h1 | h1
 ·exact ha h1
 exact h.ne he h1
theorem Slv.line (h:Slv n vs m)(h':Slv n ws k)(hin:∀e∈m,Qz (Qco k) (vec e.2))(hin':∀e∈k,Qz (Qco m) (vec e.2)){e f:Int×List Int}(he:e∈m)(hf:f∈k)(hk:f.1=e.1)(j:Nat):vec f.2 e.1.toNat*vec e.2 j=vec e.2 e.1.toNat*vec f.2 j:=by
 have:=h'.red.line (hin e he) (q:=Proofs.pv f) (Qp.2 ⟨f,hf,rfl⟩) (fun u hu hne=>by
  obtain⟨g,hg,rfl⟩:=Qp.1 hu
  obtain⟨d,hd,hd2⟩:=h'.keys_in h hin' g hg
  have hne:g.1.toNat≠f.1.toNat:=hne
  show vec e.2 g.1.toNat=0
  rw [←hd2]
  exact h.red.zr (Proofs.pv e) (Qp.2 ⟨e,he,rfl⟩) (Proofs.pv d) (Qp.2 ⟨d,hd,rfl⟩) (by
   show d.1.toNat≠e.1.toNat
   rw [hd2,←hk];exact hne)) j
 have h2:vec f.2 f.1.toNat*vec e.2 j=vec e.2 f.1.toNat*vec f.2 j:=this
 rw [hk]at h2;exact h2
end
end Go.Proofs
noncomputable section
namespace Go.Proofs
open Go Go.RowKit Go.Vm
theorem Qr4 {place:Nat}:∀(T:QO) (L K:Nat),L ∣ K→(∀e∈T,dd place e ∣ K)→Qcs place L T ∣ K
 | [],L,K,h1,_=>h1
 | x::T,L,K,h1,h2=>Qr4 T _ K (Nat.lcm_dvd h1 (h2 x Q6)) fun e he=>h2 e (Qag _ he)
theorem Qx9 {place:Nat}{A m:QO}(hA:A.Perm m):Qcs place 1 A=Qcs place 1 m:=by
 have a1:=Qod (place:=place) A 1
 have a2:=Qod (place:=place) m 1
 exact Nat.dvd_antisymm (Qr4 A 1 _ (Nat.one_dvd _) fun e he=>a2.2 e (hA.mem_iff.1 he)) (Qr4 m 1 _ (Nat.one_dvd _) fun e he=>a1.2 e (hA.mem_iff.2 he))
def wF (n:Nat)(m:QO)(place:Nat):List Int:=Qhp place (Qcs place 1 m) ((List.replicate n (0:Int)).set place (Qcs place 1 m:Int)) m
section
variable {n:Nat}{vs:List Vec}{m:QO}
theorem Qwi (place:Nat):(wF n m place).length=n:=by unfold wF;rw [Qqo];simp
theorem Qya (h:Slv n vs m){place L:Nat}{w:List Int}(hw:w.length=n){A:QO}(hA:A.Perm m):Qhp place L w A=Qhp place L w m:=by
 have kl:∀A:QO,A.Perm m→∀e∈A,e.1.toNat<w.length:=fun A hA e he=>by rw [hw];exact(h.keys e (hA.mem_iff.1 he)).2.1
 refine Qnj (by rw [Qqo,Qqo]) fun j=>?_
 by_cases hj:∃e∈m,e.1.toNat=j
 ·obtain⟨e,he,rfl⟩:=hj
  rw [Qr3 A _ (kl A hA) (h.tnd hA) (hA.mem_iff.2 he),Qr3 m _ (kl m (List.Perm.refl _)) (h.tnd (List.Perm.refl _)) he]
 rw [Qoe A _ fun e he=>⟨kl A hA e he,fun e2=>hj ⟨e,hA.mem_iff.1 he,e2⟩⟩,Qoe m _ fun e he=>⟨kl m (List.Perm.refl _) e he,fun e2=>hj ⟨e,he,e2⟩⟩]
theorem Qwj (h:Slv n vs m)(hn:n≤8){place:Nat}(hpl:place<n):0<Qcs place 1 m∧Qcs place 1 m≤2642411520:=by
 obtain⟨D,hD,hD2,hdt⟩:=h.det hn
 obtain⟨_,a,b⟩:=QyR h hn hpl hD hD2 (fun e he=>let ⟨t,h1,_⟩:=hdt e he;⟨t,h1⟩) m 1 (fun e he=>he) (by omega) (Nat.one_dvd _)
 have:=QkR hD b
 exact⟨a,by omega⟩
theorem Qzn (h:Slv n vs m)(hn:n≤8){place:Nat}(hpl:place<n):Qcu (n:Int) m (place:Int)=some (wF n m place):=by
 obtain⟨D,hD,hD2,hdt⟩:=h.det hn
 have hd:∀e∈m,(vec e.2 e.1.toNat).natAbs ∣ D:=fun e he=>let ⟨t,h1,_⟩:=hdt e he;⟨t,h1⟩
 have g1:=fun (A:QO) (hA:A.Perm m)=>QyR h hn hpl hD hD2 hd A 1 (fun e he=>hA.mem_iff.1 he) (by omega) (Nat.one_dvd _)
 have r1:Qep (fun st p=>QaK (place:Int) st p.1 p.2) 1 m=some (.inl (Qcs place 1 m:Int)):=
  Qi3.2 ⟨fun l' hl'=>by
   have x1:=(g1 l' hl').1
   have x2:=(g1 m (List.Perm.refl _)).1
   rw [Qx9 hl']at x1
   exact x1.trans x2.symm,(g1 m (List.Perm.refl _)).1⟩
 obtain⟨hp,hle⟩:=Qwj h hn hpl
 unfold wF
 generalize Qcs place 1 m=L at *
 have wl:((List.replicate n (0:Int)).set place (L:Int)).length=n:=by simp
 have g2:=fun (A:QO) (hA:A.Perm m)=>Qz1 h hn hpl (L:=L) hle A ((List.replicate n (0:Int)).set place (L:Int)) (fun e he=>hA.mem_iff.1 he) wl
 have r2:Qep (fun st p=>QaL (place:Int) (L:Int) st p.1 p.2) ((List.replicate n (0:Int)).set place (L:Int)) m=some (.inl (Qhp place L ((List.replicate n (0:Int)).set place (L:Int)) m)):=
  Qi3.2 ⟨fun l' hl'=>by
   rw [g2 l' hl',g2 m (List.Perm.refl _),Qya h wl hl'],g2 m (List.Perm.refl _)⟩
 unfold Qcu
 rw [r1,Qh]
 show QbS (n:Int) (place:Int) m (L:Int)=_
 unfold QbS
 rw [QdQ (by simp;omega),Qh,Qff,QB,QaM (by simpa using hpl),Qh,Qff (n:=place),r2]
 rfl
end
end Go.Proofs
noncomputable section
namespace Go.Proofs
open Go Go.RowKit Go.Vm
def Qr5 (F:List (List Int))(E:List Int):List Vec:=F.map vec++E.map fun k=>QoP k.toNat
def Qei (N:Nat)(m:QO)(i:Nat):List (List Int):=((List.range i).filter fun p:Nat=>(QbJ m (p:Int)).isNone).map (wF N m)
theorem Quc (N:Nat)(m:QO)(i:Nat):Qei N m (i+1)=Qei N m i++(if (QbJ m (i:Int)).isNone then [wF N m i]else []):=by
 unfold Qei
 rw [List.range_succ,List.filter_append,QkP]
 congr 1
 simp only [QlM,List.filter_nil]
 split<;>rfl
theorem Qwk (N k:Nat)(hk:k<N):vec ((List.replicate (N:Int).toNat (0:Int)).set k 1)=QoP k:=by
 funext j
 rw [Qr2 (by simpa using hk)]
 unfold QoP
 have:vec (List.replicate (N:Int).toNat (0:Int)) j=0:=by
  by_cases hj:j<N
  ·rw [Qfe (by simpa using hj)];simp
  exact Qb9 (by simp;omega)
 rw [this]
theorem Qu6 {n:Nat}{vs O:List Vec}{m:QO}(h:Slv n vs m)(hn:n≤8){row:List Int}(hl:row.length=n)(hv:∀j,(vec row j).natAbs≤4)(hr:vec row∈O)(hm:∀e∈m,Qz O (vec e.2)):∀e∈QrJ n m row,Qz O (vec e.2):=fun e he=>by
 refine(Qzm h hn hl hv e he).transQ fun v hv=>?_
 rcases QY.1 hv with rfl | hv
 ·exact .of (.mem _ hr)
 unfold Qco at hv
 obtain⟨u,hu,rfl⟩:=Qp.1 hv
 obtain⟨x,hx,rfl⟩:=Qp.1 hu
 exact hm x hx
structure QyW (n:Qm) (F:List (List Int)) (E:List Int) (vs:List Vec) (m:QO):Prop where
 slv:Slv n.Places.length vs m
 sF:∀e∈F,Qz (Qco m) (vec e)
 sE:∀k∈E,Qz (Qco m) (QoP k.toNat)
 sO:∀e∈m,Qz (Qr5 F E) (vec e.2)
theorem Qxs {n:Qm}{vs:List Vec}{m:QO}(h:Slv n.Places.length vs m)(h8:n.Places.length≤8):Qq (fun st=>Qas n m st.1 st.2) (0,([]:List (List Int)))=some (Qei n.Places.length m n.Places.length):=by
 have m1:(2048:Nat)≤maxLen:=by decide
 have s3:=QbB (body:=fun st:Int×List (List Int)=>Qas n m st.1 st.2) n.Places.length (fun i s=>s=((i:Int),Qei n.Places.length m i)) (fun r=>r=Qei n.Places.length m n.Places.length) (fun i s hi hs=>by
  subst hs
  left
  show ∃s',Qas n m (i:Int) _=_∧_
  unfold Qas QgX
  have hfl:(Qei n.Places.length m i).length≤i:=by
   unfold Qei
   rw [Qgb]
   have:=QpO (fun p:Nat=>(QbJ m (p:Int)).isNone) (List.range i)
   simpa using this
  rw [Qaa (show(i:Int)<(n.Places.length:Int) by omega),cond_true,Qx hi (by omega),Quc]
  cases hg:QbJ m (i:Int)with
  | some row=>
   have hrow:row.length=n.Places.length:=(h.keys _ (Qnv hg)).2.2.1
   have hne:(!((some row).getD ([]:List Int)).isEmpty)=true:=by
    cases row with
    | nil=>simp at hrow;omega
    | cons _ _=>rfl
   rw [show(some row).isSome=true from rfl,cond_true,QdQ hne,Qh]
   exact⟨_,rfl,by simp⟩
  | none=>
   rw [show(none:Option (List Int)).isSome=false from rfl,cond_false,Qzn h h8 hi,Qh,Qjy (by simp;omega),Qh]
   exact⟨_,rfl,by simp⟩) (fun s hs=>by
  subst hs
  refine⟨_,?_,rfl⟩
  show Qas n m (n.Places.length:Int) _=_
  unfold Qas
  rw [Q9 (by omega)];rfl) (0,[]) (by simp [Qei])
 obtain⟨r,hr,rfl⟩:=s3
 exact hr
end Go.Proofs
