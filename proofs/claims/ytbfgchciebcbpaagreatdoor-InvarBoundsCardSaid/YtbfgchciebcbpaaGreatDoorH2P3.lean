/- A part of the proof; what it holds is told at each theorem. -/
import Derived.Test.YtbfgchciebcbpaaGreatDoorH2P2
import Derived.Test.YtbfgchciebcbpaaGreatDoorH2P2
import Derived.Test.YtbfgchciebcbpaaGreatDoorH2P2
import Derived.Test.YtbfgchciebcbpaaGreatDoorH2P2
import Derived.Test.YtbfgchciebcbpaaGreatDoorH2P2
import Derived.Test.YtbfgchciebcbpaaGreatDoorH2P2
set_option linter.unusedVariables false
set_option linter.unusedSimpArgs false
set_option linter.unusedSectionVars false
set_option linter.deprecated false
noncomputable section
namespace Go.Proofs
open Go Go.RowKit Go.Vm
theorem QoM : ∀(n:Nat) {l:List Nat},l.Nodup→(∀x∈l,x<n)→l.length≤n
 | 0,l,_,h=>by
  cases l with
  | nil=>exact QbY _
  | cons x l=>exact absurd (h x Q5) (by omega)
 | n+1,l,hn,h=>by
  by_cases hm:n∈l
  ·have h1:=QoM n (hn.erase n) fun x hx=>by
    have h2:=h x (List.mem_of_mem_erase hx)
    have h3:x≠n:=fun e=>by subst e;exact(List.Nodup.not_mem_erase hn) hx
    omega
   rw [List.length_erase_of_mem hm]at h1
   omega
  have h1:=QoM n hn fun x hx=>by
   have h2:=h x hx
   have h3:x≠n:=fun e=>hm (e▸hx)
   omega
  omega
abbrev QaC : Type:=List (Int×List Int)
def pv (q:Int×List Int):Nat×Vec:=(q.1.toNat,vec q.2)
structure Slv (n:Nat) (vs:List Vec) (m:QaC):Prop where
 keys:∀q∈m,q.1=(q.1.toNat:Int)∧q.1.toNat<n∧q.2.length=n∧∀j,j<q.1.toNat→vec q.2 j=0
 nd:((m.map pv).map Prod.fst).Nodup
 sys:∃rs,Qof vs rs∧rs.Perm (m.map pv)
 mag:∀v∈vs,∀j,(v j).natAbs≤4
section
variable {n:Nat}{vs:List Vec}{m:QaC}
theorem Slv.len (h:Slv n vs m):m.length≤n:=by
 have:=QoM n h.nd fun x hx=>by
  obtain⟨u,hu,rfl⟩:=QG.1 hx
  obtain⟨q,hq,rfl⟩:=QG.1 hu
  exact(h.keys q hq).2.1
 simpa using this
theorem Slv.red (h:Slv n vs m):Red (m.map pv):=by
 obtain⟨rs,hs,hp⟩:=h.sys
 exact⟨h.nd,fun q hq=>hs.red.ne q (hp.mem_iff.2 hq),fun q hq p hp2=>hs.red.zr q (hp.mem_iff.2 hq) p (hp.mem_iff.2 hp2)⟩
theorem Slv.prim (h:Slv n vs m){q:Int×List Int}(hq:q∈m):QnN (vec q.2):=by
 obtain⟨rs,hs,hp⟩:=h.sys
 exact hs.prim (pv q) (hp.mem_iff.2 (QG.2 ⟨q,hq,rfl⟩))
theorem Slv.vlen (h:Slv n vs m):vs.length=m.length:=by
 obtain⟨rs,hs,hp⟩:=h.sys
 rw [hs.len,hp.length_eq];simp
theorem Slv.unit (h:Slv n vs m)(h8:m.length=n){q:Int×List Int}(hq:q∈m):(vec q.2 q.1.toNat).natAbs=1∧∀j,j≠q.1.toNat→vec q.2 j=0:=by
 have hz:∀j,j≠q.1.toNat→vec q.2 j=0:=fun j hj=>by
  by_cases hn:j<n
  ·by_cases hm:j∈(m.map pv).map Prod.fst
   ·obtain⟨u,hu,rfl⟩:=QG.1 hm
    exact h.red.zr (pv q) (QG.2 ⟨q,hq,rfl⟩) u hu hj
   have h1:(j::(m.map pv).map Prod.fst).Nodup:=Qdo.2 ⟨hm,h.nd⟩
   have h2:=QoM n h1 fun x hx=>by
    rcases Qaa.1 hx with rfl | hx
    ·exact hn
    obtain⟨u,hu,rfl⟩:=QG.1 hx
    obtain⟨w,hw,rfl⟩:=QG.1 hu
    exact(h.keys w hw).2.1
   simp at h2;omega
  exact QeT (by rw [(h.keys q hq).2.2.1];omega)
 refine⟨h.prim hq _ fun j=>?_,hz⟩
 by_cases e:j=q.1.toNat
 ·rw [e];exact Nat.dvd_refl _
 rw [hz j e];exact Nat.dvd_zero _
theorem QCG {k:Nat}(h:k≤7):fac k*4 ^ k≤82575360:=by
 have:∀k,k<8→fac k*4 ^ k≤82575360:=by decide
 exact this k (by omega)
theorem Slv.le (h:Slv n vs m)(hn:n≤8){q:Int×List Int}(hq:q∈m)(j:Nat):(vec q.2 j).natAbs≤82575360:=by
 by_cases h7:m.length≤7
 ·obtain⟨rs,hs,hp⟩:=h.sys
  have:=hs.le h.mag (hp.mem_iff.2 (QG.2 ⟨q,hq,rfl⟩)) j
  exact Qaw this (by rw [h.vlen];exact QCG h7)
 have h1:=h.len
 obtain⟨u1,u2⟩:=h.unit (by omega) hq
 by_cases e:j=q.1.toNat
 ·rw [e,u1];omega
 rw [u2 j e];simp
def QfG (v:Vec)(S:QaC):Int:=S.foldr (fun q a=>(if v q.1.toNat=0 then 1 else vec q.2 q.1.toNat)*a) 1
theorem QyO (v:Vec){S T:QaC}(h:S.Perm T):QfG v S=QfG v T:=by
 induction h with
 | nil=>rfl
 | cons x _ ih=>show _*QfG v _=_*QfG v _;rw [ih]
 | swap x y l=>show _*(_*QfG v l)=_*(_*QfG v l);rw [QkY]
 | trans _ _ h1 h2=>rw [h1,h2]
theorem Qu9 (v:Vec)(q:Int×List Int):∀S:QaC,QfG v (S++[q])=(if v q.1.toNat=0 then 1 else vec q.2 q.1.toNat)*QfG v S
 | []=>rfl
 | x::S=>by
  show _*QfG v (S++[q])=_*(_*QfG v S)
  rw [Qu9 v q S,QkY]
theorem Qao.at {vs:List Vec}{x:Vec}(h:Qao vs x){p:Nat}(hz:∀v∈vs,v p=0):x p=0:=by
 induction h with
 | zero=>rfl
 | mem v hv=>exact hz v hv
 | lin a b x y _ _ h1 h2=>show a*x p+b*y p=0;rw [h1,h2];simp
structure Mid (n:Nat) (m:QaC) (v:Vec) (S:QaC) (row:List Int):Prop where
 len:row.length=n
 pz:QnN (vec row)∨∀j,vec row j=0
 rel:∃be:Nat,0<be∧Qao ((S.map pv).map Prod.snd) fun j=>QfG v S*v j-(be:Int)*vec row j
 zer:∀q∈S,vec row q.1.toNat=0
 four:m.length=n→∀j,(vec row j).natAbs≤4
theorem QsF (h:Slv n vs m)(v:Vec):∀S:QaC,(∀q∈S,q∈m)→QfG v S≠0
 | [],_=>by show(1:Int)≠0;decide
 | x::S,hS=>by
  show _*QfG v S≠0
  refine Int.mul_ne_zero ?_ (QsF h v S fun q hq=>hS q (Qab _ hq))
  split
  ·decide
  exact h.red.ne (pv x) (QG.2 ⟨x,hS x Q5,rfl⟩)
theorem Mid.mag (h:Slv n vs m)(hn:n≤8){v:Vec}(hv:∀j,(v j).natAbs≤4){S:QaC}{row:List Int}(hm:Mid n m v S row)(hS:∀q∈S,q∈m)(hnd:((S.map pv).map Prod.fst).Nodup)(j:Nat):(vec row j).natAbs≤2642411520:=by
 rcases hm.pz with hp | hz
 ·by_cases h7:m.length≤7
  ·obtain⟨rs,hs,hperm⟩:=h.sys
   obtain⟨be,hb,hrel⟩:=hm.rel
   have hl:S.length≤7:=by
    have h1:S.length≤m.length:=by
     have sub:∀(A B:QaC),((A.map pv).map Prod.fst).Nodup→(∀q∈A,q∈B)→A.length≤B.length:=by
      intro A
      induction A with
      | nil=>intro B _ _;exact Nat.zero_le _
      | cons x A ih=>
       intro B hn hs
       rw [QaZ,QaZ,Qdo]at hn
       obtain⟨p,s,rfl⟩:=Qvc (hs x Q5)
       have:=ih (p++s) hn.2 fun q hq=>by
        have h1:=hs q (Qab _ hq)
        rcases Qco.1 h1 with h1 | h1
        ·exact Qok _ h1
        rcases Qaa.1 h1 with h1 | h1
        ·exfalso
         exact hn.1 (QG.2 ⟨pv q,QG.2 ⟨q,hq,rfl⟩,by rw [h1]⟩)
        exact QwR _ h1
       simp at this ⊢;omega
     exact sub S m hnd hS
    omega
   have:=hs.mid (m:=4) (B:=82575360) (by rw [h.vlen];exact QCG h7) h.mag (v:=v) (w:=vec row) hv (al:=QfG v S) (be:=(be:Int)) (QsF h v S hS) (by omega) (S:=S.map pv) (fun u hu=>by
    obtain⟨q,hq,rfl⟩:=QG.1 hu
    exact hperm.mem_iff.2 (QG.2 ⟨q,hS q hq,rfl⟩)) hnd hrel (fun u hu=>by
    obtain⟨q,hq,rfl⟩:=QG.1 hu
    exact hm.zer q hq) hp j
   rw [Qk0]at this
   refine Qaw this ?_
   have:(S.length+1)*(4*82575360)≤8*(4*82575360):=Qb3 _ (by omega)
   omega
  have h1:=h.len
  have:=hm.four (by omega) j
  omega
 rw [hz j];simp
theorem Mid.start {row:List Int}(hl:row.length=n)(hv:∀j,(vec row j).natAbs≤4):Mid n m (vec row) [] (QgQ row):=by
 refine⟨by rw [QAi,hl],?_,?_,(fun q h=>by cases h),fun _ j=>Qaw (Qvw row j) (hv j)⟩
 ·by_cases h:∃j,vec row j≠0
  ·exact .inl (QyN h)
  right;intro j
  have h1:vec row j=0:=by
   cases Decidable.em (vec row j=0)with
   | inl e=>exact e
   | inr e=>exact absurd ⟨j,e⟩ h
  have h2:=Qvw row j
  rw [h1]at h2
  exact Int.natAbs_eq_zero.1 (by simpa using h2)
 obtain⟨c,hc,h⟩:=QwN row
 refine⟨c,hc,?_⟩
 have e:(fun j=>QfG (vec row) []*vec row j-(c:Int)*vec (QgQ row) j)=fun _=>0:=by
  funext j
  rw [←h j]
  show 1*vec row j-vec row j=0
  omega
 rw [e];exact .zero
theorem Mid.step (h:Slv n vs m)(hn:n≤8){v:Vec}(hv:∀j,(v j).natAbs≤4){S:QaC}{row:List Int}(hm:Mid n m v S row)(hS:∀q∈S,q∈m)(hnd:((S.map pv).map Prod.fst).Nodup){q:Int×List Int}(hq:q∈m)(hqn:q.1.toNat ∉ (S.map pv).map Prod.fst):
  Qas (n:Int) row q.2 q.1=some (QbP n row q.2 q.1.toNat)∧Mid n m v (S++[q]) (QbP n row q.2 q.1.toNat):=by
 obtain⟨k1,k2,k3,k4⟩:=h.keys q hq
 have mg:=hm.mag h hn hv hS hnd
 have ml:=h.le hn hq
 have hcl:Qas (n:Int) row q.2 q.1=some (QbP n row q.2 q.1.toNat):=by
  have b1:∀a b:Nat,a≤2642411520→b≤82575360→a*b≤4611686018427387903:=fun a b ha hb=>Qaw (QpJ ha hb) (by decide)
  have:=QAk (k:=q.1.toNat) hm.len k3 k2 (by omega) (fun j=>by rw [QhS];exact b1 _ _ (mg j) (ml _)) (fun j=>by rw [QhS,QlY];exact b1 _ _ (mg _) (ml j))
  rw [←k1]at this
  exact this
 refine⟨hcl,?_⟩
 obtain⟨be,hb,hrel⟩:=hm.rel
 have other:∀u∈(S.map pv).map Prod.snd,u q.1.toNat=0:=fun u hu=>by
  obtain⟨w,hw,rfl⟩:=QG.1 hu
  obtain⟨x,hx,rfl⟩:=QG.1 hw
  exact h.red.zr (pv x) (QG.2 ⟨x,hS x hx,rfl⟩) (pv q) (QG.2 ⟨q,hq,rfl⟩) fun e=>hqn (QG.2 ⟨pv x,QG.2 ⟨x,hx,rfl⟩,e.symm⟩)
 have atq:QfG v S*v q.1.toNat=(be:Int)*vec row q.1.toNat:=by
  have:=Qao.at hrel other
  have h2:QfG v S*v q.1.toNat-(be:Int)*vec row q.1.toNat=0:=this
  omega
 have ups:∀{x},Qao ((S.map pv).map Prod.snd) x→Qao (((S++[q]).map pv).map Prod.snd) x:=fun hx=>hx.mono fun u hu=>.mem u (by
  rw [List.map_append,List.map_append];exact Qok _ hu)
 by_cases h0:vec row q.1.toNat=0
 ·have hc:QbP n row q.2 q.1.toNat=row:=by unfold QbP;rw [if_pos h0]
  have hv0:v q.1.toNat=0:=by
   rw [h0,Qhd]at atq
   exact(QjG.1 atq).resolve_left (QsF h v S hS)
  rw [hc]
  refine⟨hm.len,hm.pz,⟨be,hb,?_⟩,?_,hm.four⟩
  ·rw [Qu9,if_pos hv0,Int.one_mul];exact ups hrel
  intro x hx
  rcases Qco.1 hx with hx | hx
  ·exact hm.zer x hx
  rw [Qk2]at hx;rw [hx];exact h0
 have hv0:v q.1.toNat≠0:=fun e=>by
  rw [e,Qhd]at atq
  rcases QjG.1 atq.symm with h1 | h1
  ·omega
  exact h0 h1
 obtain⟨c,hc,hcr⟩:=QAY (k:=q.1.toNat) hm.len k3 h0
 have cz:∀j,vec q.2 q.1.toNat*vec row j-vec row q.1.toNat*vec q.2 j=0→vec (QbP n row q.2 q.1.toNat) j=0:=fun j e=>by
  have:=hcr j
  rw [e]at this
  exact(QjG.1 this).resolve_left (by omega)
 refine⟨QAj hm.len,QAl hm.pz,⟨be*c,Nat.mul_pos hb hc,?_⟩,?_,?_⟩
 ·rw [Qu9,if_neg hv0]
  have h1:=Qao.lin (vec q.2 q.1.toNat) ((be:Int)*vec row q.1.toNat) _ _ (ups hrel) (Qao.mem (vs:=((S++[q]).map pv).map Prod.snd) (vec q.2) (by simp [pv]))
  have e:(fun j=>vec q.2 q.1.toNat*QfG v S*v j-((be*c:Nat):Int)*vec (QbP n row q.2 q.1.toNat) j)=fun j=>vec q.2 q.1.toNat*(QfG v S*v j-(be:Int)*vec row j)+(be:Int)*vec row q.1.toNat*vec q.2 j:=by
   funext j
   have:=hcr j
   have e1:((be*c:Nat):Int)*vec (QbP n row q.2 q.1.toNat) j=(be:Int)*((c:Int)*vec (QbP n row q.2 q.1.toNat) j):=by rw [Int.natCast_mul,QgR]
   rw [e1,this,Int.mul_sub,Int.mul_sub,QgR,QgR,QkY (be:Int) (vec q.2 q.1.toNat)]
   omega
  rw [e];exact h1
 ·intro x hx
  refine cz _ ?_
  rcases Qco.1 hx with hx | hx
  ·rw [hm.zer x hx,h.red.zr (pv q) (QG.2 ⟨q,hq,rfl⟩) (pv x) (QG.2 ⟨x,hS x hx,rfl⟩) (fun e=>hqn (QG.2 ⟨pv x,QG.2 ⟨x,hx,rfl⟩,e⟩)) |> fun (e:vec q.2 x.1.toNat=0)=>e]
   simp
  rw [Qk2]at hx;rw [hx,QkX];omega
 intro h8 j
 obtain⟨u1,u2⟩:=h.unit h8 hq
 refine Qaw (QFb hm.len k3 j h0) ?_
 by_cases e:j=q.1.toNat
 ·rw [e,QkX,Int.sub_self];simp
 rw [u2 j e]
 have:(vec row j*vec q.2 q.1.toNat-0*vec row q.1.toNat).natAbs=(vec row j).natAbs:=by
  rw [Int.zero_mul,Int.sub_zero,QhS,u1,Nat.mul_one]
 rw [this];exact hm.four h8 j
end
end Go.Proofs
noncomputable section
namespace Go.Proofs
open Go Go.RowKit Go.Vm
def Qmq (n:Nat)(row:List Int)(L:QaC):List Int:=L.foldl (fun r q=>QbP n r q.2 q.1.toNat) row
section
variable {n:Nat}{vs:List Vec}{m:QaC}
theorem QFc (h:Slv n vs m)(hn:n≤8){v:Vec}(hv:∀j,(v j).natAbs≤4):∀(T S:QaC) (row:List Int),Mid n m v S row→(∀q∈S++T,q∈m)→(((S++T).map pv).map Prod.fst).Nodup→
  QbA (fun st p=>Qbn (n:Int) st p.1 p.2) row T=some (.inl (Qmq n row T))∧Mid n m v (S++T) (Qmq n row T)
 | [],S,row,hm,_,_=>⟨rfl,by rw [QsJ];exact hm⟩
 | q::T,S,row,hm,hS,hnd=>by
  have hnd2:=hnd
  rw [List.map_append,List.map_append,List.nodup_append]at hnd2
  obtain⟨n1,n2,n3⟩:=hnd2
  have hq:q∈m:=hS q (by simp)
  have hqn:q.1.toNat ∉ (S.map pv).map Prod.fst:=fun hh=>n3 _ hh q.1.toNat (by simp [pv]) rfl
  obtain⟨h1,h2⟩:=hm.step h hn hv (fun x hx=>hS x (Qok _ hx)) n1 hq hqn
  have e:S++q::T=(S++[q])++T:=by simp
  obtain⟨h3,h4⟩:=QFc h hn hv T (S++[q]) _ h2 (by rw [←e];exact hS) (by rw [←e];exact hnd)
  refine⟨?_,by rw [e];exact h4⟩
  rw [QbA]
  show(Qbn (n:Int) row q.1 q.2).bind _=_
  unfold Qbn
  rw [h1,Qi,Qi]
  exact h3
theorem QEh {a b:Vec}{x y:Nat}(ha:QnN a)(hb:QnN b)(hx:0<x)(hy:0<y)(h:∀j,(x:Int)*a j=(y:Int)*b j):∀j,a j=b j:=by
 obtain⟨t,t1,t2,t3⟩:=ha.fits (x:=(x:Int)) (y:=(y:Int)) (R:=b) (by omega) (by omega) h
 obtain⟨u,u1,u2,u3⟩:=hb.fits (x:=(y:Int)) (y:=(x:Int)) (R:=a) (by omega) (by omega) (fun j=>(h j).symm)
 have h1:(x:Int)*1=(x:Int)*(u*t):=by
  have:(x:Int)=(x:Int)*u*t:=by rw [←u2];exact t2
  rw [Int.mul_one,←QgR];exact this
 have h2:=Int.eq_of_mul_eq_mul_left (by omega:(x:Int)≠0) h1
 have ht:0<t:=by
  have:0<(y:Int)*t:=by rw [←t2];omega
  rcases Int.lt_trichotomy t 0 with h3 | h3 | h3
  ·have:(y:Int)*t<0:=Int.mul_neg_of_pos_of_neg (by omega) h3
   omega
  ·exact absurd h3 t1
  exact h3
 have ht1:t=1:=by
  have hu:0<u:=by
   rcases Int.lt_trichotomy u 0 with h3 | h3 | h3
   ·have:=Int.mul_neg_of_neg_of_pos h3 ht;omega
   ·exact absurd h3 u1
   exact h3
  have:1*t≤u*t:=Int.mul_le_mul_of_nonneg_right (by omega) (by omega)
  omega
 intro j
 rw [t3 j,ht1,Int.one_mul]
theorem Mid.uniq (h:Slv n vs m){v:Vec}{A B:QaC}(hA:A.Perm m)(hB:B.Perm m){a b:List Int}(ma:Mid n m v A a)(mb:Mid n m v B b):a=b:=by
 refine Qyp (by rw [ma.len,mb.len]) ?_
 obtain⟨x,hx,ra⟩:=ma.rel
 obtain⟨y,hy,rb⟩:=mb.rel
 rw [QyO v hA]at ra
 rw [QyO v hB]at rb
 have pa:∀{z},Qao ((A.map pv).map Prod.snd) z→Qao ((m.map pv).map Prod.snd) z:=fun hz=>hz.mono fun u hu=>.mem u (by
  exact((hA.map pv).map Prod.snd).mem_iff.1 hu)
 have pb:∀{z},Qao ((B.map pv).map Prod.snd) z→Qao ((m.map pv).map Prod.snd) z:=fun hz=>hz.mono fun u hu=>.mem u (by
  exact((hB.map pv).map Prod.snd).mem_iff.1 hu)
 have hs:=Qao.sub 1 1 (pb rb) (pa ra)
 have e:(fun j=>1*(QfG v m*v j-(y:Int)*vec b j)-1*(QfG v m*v j-(x:Int)*vec a j))=fun j=>(x:Int)*vec a j-(y:Int)*vec b j:=by funext j;omega
 rw [e]at hs
 have h0:=h.red.inj hs (fun u hu=>by
  obtain⟨q,hq,rfl⟩:=QG.1 hu
  show(x:Int)*vec a q.1.toNat-(y:Int)*vec b q.1.toNat=0
  rw [ma.zer q (hA.mem_iff.2 hq),mb.zer q (hB.mem_iff.2 hq)];simp)
 have hab:∀j,(x:Int)*vec a j=(y:Int)*vec b j:=fun j=>by have:=h0 j;omega
 rcases ma.pz with p1 | z1
 ·rcases mb.pz with p2 | z2
  ·exact QEh p1 p2 hx hy hab
  intro j
  have:=hab j
  rw [z2 j,Qhd]at this
  rw [z2 j];exact(QjG.1 this).resolve_left (by omega)
 intro j
 have:=hab j
 rw [z1 j,Qhd]at this
 rw [z1 j];exact((QjG.1 this.symm).resolve_left (by omega)).symm
theorem QAZ (h:Slv n vs m){A:QaC}(hA:A.Perm m):((A.map pv).map Prod.fst).Nodup:=((hA.map pv).map Prod.fst).nodup_iff.2 h.nd
theorem QFd (h:Slv n vs m)(hn:n≤8){row:List Int}(hl:row.length=n)(hv:∀j,(vec row j).natAbs≤4):
  QcE (fun st p=>Qbn (n:Int) st p.1 p.2) (QgQ row) m=some (.inl (Qmq n (QgQ row) m))∧Mid n m (vec row) m (Qmq n (QgQ row) m):=by
 have st:=Mid.start (m:=m) hl hv
 have go:∀A:QaC,A.Perm m→QbA (fun st p=>Qbn (n:Int) st p.1 p.2) (QgQ row) A=some (.inl (Qmq n (QgQ row) A))∧Mid n m (vec row) A (Qmq n (QgQ row) A):=fun A hA=>by
  have:=QFc h hn hv A [] _ st (fun q hq=>hA.mem_iff.1 (by simpa using hq)) (by simpa using QAZ h hA)
  simpa using this
 have g0:=go m (List.Perm.refl _)
 refine⟨Qd0.2 ⟨fun l' hl'=>?_,g0.1⟩,g0.2⟩
 have g1:=go l' hl'
 rw [g1.1,g0.1,Mid.uniq h hl' (List.Perm.refl _) g1.2 g0.2]
def QoZ (f:List Int→List Int)(S:List Int)(m:QaC):QaC:=m.map fun e=>(e.1,if e.1∈S then f e.2 else e.2)
theorem QCH (f:List Int→List Int)(S:List Int)(m:QaC):(QoZ f S m).map Prod.fst=m.map Prod.fst:=by simp [QoZ]
theorem mget_of_mem {m:QaC}(hn:(m.map Prod.fst).Nodup){k:Int}{v:List Int}(h:(k,v)∈m):QR m k=some v:=by
 induction m with
 | nil=>cases h
 | cons e m ih=>
  obtain⟨a,x⟩:=e
  rw [QaZ,Qdo]at hn
  rw [Qaf]
  rcases Qaa.1 h with e | h
  ·cases e;rw [if_pos rfl]
  rw [if_neg (fun e=>hn.1 (QG.2 ⟨(k,v),h,e.symm⟩)),ih hn.2 h]
theorem QDG {m:QaC}(hn:(m.map Prod.fst).Nodup)(k:Int)(v:List Int):Qgg m k v=m.map fun e=>(e.1,if e.1=k then v else e.2):=by
 induction m with
 | nil=>rfl
 | cons e m ih=>
  obtain⟨a,x⟩:=e
  rw [QaZ,Qdo]at hn
  show(if a=k then(k,v)::m else(a,x)::Qgg m k v)=(a,if a=k then v else x)::m.map _
  by_cases ha:a=k
  ·rw [if_pos ha,if_pos ha,ha]
   congr 1
   have:∀e∈m,(e.1,if e.1=k then v else e.2)=e:=fun e he=>by
    rw [if_neg (fun e2=>hn.1 (QG.2 ⟨e,he,by rw [e2,ha]⟩))]
   conv=>lhs;rw [←List.map_id m]
   exact QjH fun e he=>(this e he).symm
  rw [if_neg ha,if_neg ha,ih hn.2]
theorem QDH {f:List Int→List Int}{S:List Int}(hn:(m.map Prod.fst).Nodup){k:Int}{v:List Int}(h:(k,v)∈m)(hk:k ∉ S):QaR ltI (QoZ f S m) k (f v)=QoZ f (S++[k]) m:=by
 have hn2:((QoZ f S m).map Prod.fst).Nodup:=by rw [QCH];exact hn
 have hm:(k,v)∈QoZ f S m:=QG.2 ⟨(k,v),h,by rw [if_neg hk]⟩
 unfold QaR
 rw [mget_of_mem hn2 hm]
 show Qgg (QoZ f S m) k (f v)=_
 rw [QDG hn2]
 unfold QoZ
 rw [Qer]
 refine QjH fun e he=>?_
 show(e.1,if e.1=k then f v else if e.1∈S then f e.2 else e.2)=(e.1,if e.1∈S++[k]then f e.2 else e.2)
 by_cases ek:e.1=k
 ·have:e.2=v:=by
   have h1:=mget_of_mem hn (show(e.1,e.2)∈m from he)
   rw [ek,mget_of_mem hn h]at h1
   exact(Option.some.inj h1).symm
  rw [if_pos ek,if_pos (by rw [ek];simp),this]
 rw [if_neg ek]
 by_cases es:e.1∈S
 ·rw [if_pos es,if_pos (Qok _ es)]
 rw [if_neg es,if_neg (by simp [es,ek])]
theorem QFe {n q:Nat}{row:List Int}(hn:(m.map Prod.fst).Nodup)(hc:∀e∈m,Qas (n:Int) e.2 row (q:Int)=some (QbP n e.2 row q)):
  QcE (fun st p=>QaU (n:Int) row (q:Int) st p.1 p.2) m m=some (.inl (m.map fun e=>(e.1,QbP n e.2 row q))):=by
 have go:∀(T:QaC) (S:List Int),(∀e∈T,e∈m)→(S++T.map Prod.fst).Nodup→QbA (fun st p=>QaU (n:Int) row (q:Int) st p.1 p.2) (QoZ (fun r=>QbP n r row q) S m) T=some (.inl (QoZ (fun r=>QbP n r row q) (S++T.map Prod.fst) m)):=by
  intro T
  induction T with
  | nil=>intro S _ _;rw [List.map_nil,QsJ];rfl
  | cons e T ih=>
   intro S hT hnd
   have hk:e.1 ∉ S:=fun hh=>by
    rw [List.nodup_append]at hnd
    exact hnd.2.2 _ hh e.1 (by simp) rfl
   have e2:S++(e::T).map Prod.fst=(S++[e.1])++T.map Prod.fst:=by simp
   rw [QbA]
   show(QaU (n:Int) row (q:Int) _ e.1 e.2).bind _=_
   unfold QaU
   rw [hc e (hT e Q5),Qi,Qi,QDH (f:=fun r=>QbP n r row q) hn (hT e Q5) hk]
   rw [e2]at hnd ⊢
   exact ih _ (fun x hx=>hT x (Qab _ hx)) hnd
 have all:∀A:QaC,A.Perm m→QbA (fun st p=>QaU (n:Int) row (q:Int) st p.1 p.2) m A=some (.inl (m.map fun e=>(e.1,QbP n e.2 row q))):=fun A hA=>by
  have h0:QoZ (fun r=>QbP n r row q) [] m=m:=by
   unfold QoZ
   conv=>rhs;rw [←List.map_id m]
   exact QjH fun e he=>by simp
  have h1:=go A [] (fun e he=>hA.mem_iff.1 he) (by simpa using (hA.map Prod.fst).nodup_iff.2 hn)
  rw [h0,List.nil_append]at h1
  rw [h1]
  congr 2
  refine QjH fun e he=>?_
  rw [if_pos ((hA.map Prod.fst).mem_iff.2 (QG.2 ⟨e,he,rfl⟩))]
 exact Qd0.2 ⟨fun l' hl'=>by rw [all l' hl',all m (List.Perm.refl _)],all m (List.Perm.refl _)⟩
end
end Go.Proofs
noncomputable section
namespace Go.Proofs
open Go Go.RowKit Go.Vm
theorem QEi {s:List Int}(hm:s.length≤maxLen):QbM s=some ((Qdt (fun _ x=>x != 0) 0 s).elim (-1) fun i=>(i:Int)):=by
 unfold QbM
 have h:=QyG (body:=fun st=>Qak s st) (l:=s) (fun i=>(i:Int)) (fun _ x=>x != 0) (fun i=>.inl (i:Int)) (.inr ()) (fun i x hi hx=>by
  show Qak s (i:Int)=_
  unfold Qak QiI
  rw [Qa4 (show(i:Int)<(s.length:Int) by omega),QN,hx,Qw hi hm]
  simp only [cond_true,Qi]
  cases (x != 0)<;>rfl) (by
  show Qak s (s.length:Int)=_
  unfold Qak
  rw [Qa8 (by omega)];rfl) (s0:=0) rfl
 rw [h]
 cases Qdt (fun _ x=>x != 0) 0 s<;>rfl
theorem QxN {α:Type}{p:α→Bool}:∀{l:List α} {k n:Nat},Qdt (fun _ x=>p x) k l=some n→∀i x,k+i<n→l[i]? = some x→p x=false
 | [],k,n,h,i,x,_,hx=>by simp at hx
 | y::l,k,n,h,i,x,hi,hx=>by
  rw [Qdt]at h
  cases hp:p y with
  | true=>rw [hp,cond_true]at h;cases h;omega
  | false=>
   rw [hp,cond_false]at h
   cases i with
   | zero=>simp at hx;subst hx;exact hp
   | succ i=>exact QxN h i x (by omega) (by simpa using hx)
theorem mins_perm (lt:Int→Int→Bool)(k:Int)(v:List Int):∀m:QaC,(Qkq lt m k v).Perm ((k,v)::m)
 | []=>List.Perm.refl _
 | (a,x)::m=>by
  rw [Qkq]
  split
  ·exact List.Perm.refl _
  exact(List.Perm.cons _ (mins_perm lt k v m)).trans (List.Perm.swap _ _ _)
theorem QAm {m:QaC}{k:Int}(h:k ∉ m.map Prod.fst):QR m k=none:=by
 induction m with
 | nil=>rfl
 | cons e m ih=>
  obtain⟨a,x⟩:=e
  rw [QaZ,Qaa,not_or]at h
  rw [Qaf,if_neg (fun e=>h.1 e.symm),ih h.2]
section
variable {n:Nat}{vs:List Vec}{m:QaC}
theorem Slv.knd (h:Slv n vs m):(m.map Prod.fst).Nodup:=by
 have h1:=h.nd
 have e:(m.map pv).map Prod.fst=(m.map Prod.fst).map Int.toNat:=by simp [pv,Qer,Function.comp_def]
 rw [e]at h1
 clear e
 have key:∀l:List Int,(l.map Int.toNat).Nodup→l.Nodup:=by
  intro l
  induction l with
  | nil=>intro _;exact List.nodup_nil
  | cons a l ih=>
   intro h
   rw [QaZ,Qdo]at h
   exact Qdo.2 ⟨fun hm=>h.1 (QG.2 ⟨a,hm,rfl⟩),ih h.2⟩
 exact key _ h1
def QlX (m:QaC):List Vec:=(m.map pv).map Prod.snd
def QAn (n:Nat)(m:QaC)(row:List Int):QaC:=match Qdt (fun _ x=>x != 0) 0 (Qmq n (QgQ row) m)with
 | none=>m
 | some q=>QaR ltI (m.map fun e=>(e.1,QbP n e.2 (Qmq n (QgQ row) m) q)) (q:Int) (Qmq n (QgQ row) m)
theorem QCI (h:Slv n vs m)(hn:n≤8){row:List Int}(hl:row.length=n)(hv:∀j,(vec row j).natAbs≤4):Qe9 (n:Int) m row=some (QAn n m row)∧∃vs',Slv n vs' (QAn n m row)∧(∀x,Qae (QlX m) x→Qae (QlX (QAn n m row)) x)∧Qae (QlX (QAn n m row)) (vec row):=by
 have mx:(8:Nat)≤maxLen:=by decide
 obtain⟨r1,r2⟩:=QFd h hn hl hv
 unfold Qe9 Qad QAn
 rw [QnH (by show(0+row.length)*8≤140737488355328;omega),Qi,Qi,List.nil_append,QxM (fun x hx=>by
  obtain⟨j,hj,rfl⟩:=Qk1.1 hx
  have:=hv j
  rw [QdM hj]at this
  unfold Sm;omega) (by omega),Qi,r1,Qi]
 obtain⟨y,hy⟩:∃y,Qmq n (QgQ row) m=y:=⟨_,rfl⟩
 rw [hy]at r1 r2 ⊢
 show Qfm m (n:Int) y=_∧_
 unfold Qfm
 rw [QEi (by rw [r2.len];omega),Qi]
 cases hs:Qdt (fun _ x=>x != 0) 0 y with
 | none=>
  refine⟨rfl,vs,h,fun x hx=>hx,?_⟩
  obtain⟨be,hb,hrel⟩:=r2.rel
  refine⟨QfG (vec row) m,QsF h _ m fun q hq=>hq,?_⟩
  have hz:∀j,vec y j=0:=fun j=>by
   by_cases hj:j<y.length
   ·have:=QpE hs j _ (Qc6 hj)
    simpa using this
   exact QeT (by omega)
  have e:(fun j=>QfG (vec row) m*vec row j-(be:Int)*vec y j)=fun j=>QfG (vec row) m*vec row j:=by
   funext j;rw [hz j];simp
  rw [e]at hrel
  exact hrel
 | some q=>
  obtain⟨i,x,e,hx,hne⟩:=QpD hs
  rw [Qnc]at e;subst e
  have hqn:q<n:=by rw [←r2.len];exact(QQ.1 hx).1
  have hyq:vec y q≠0:=by
   have:=Qc6 (row:=y) (by rw [r2.len];exact hqn)
   rw [this]at hx;cases hx
   simpa using hne
  have hfirst:∀j,j<q→vec y j=0:=fun j hj=>by
   have:=QxN hs j (vec y j) (by omega) (Qc6 (by rw [r2.len];omega))
   simpa using this
  have hyz:∀e∈m,vec y e.1.toNat=0:=r2.zer
  have hyp:QnN (vec y):=r2.pz.resolve_right fun hz=>hyq (hz q)
  have ymag:=r2.mag h hn hv (fun q hq=>hq) h.nd
  have hc:∀e∈m,Qas (n:Int) e.2 y (q:Int)=some (QbP n e.2 y q):=fun e he=>by
   have ml:=h.le hn he
   have b1:∀a b:Nat,a≤82575360→b≤2642411520→a*b≤4611686018427387903:=fun a b ha hb=>Qaw (QpJ ha hb) (by decide)
   exact QAk (h.keys e he).2.2.1 r2.len hqn (by omega) (fun j=>by rw [QhS];exact b1 _ _ (ml j) (ymag _)) (fun j=>by rw [QhS,QlY];exact b1 _ _ (ml _) (ymag j))
  have hkq:(q:Int) ∉ m.map Prod.fst:=fun hm=>by
   obtain⟨e,he,e2⟩:=QG.1 hm
   have:=hyz e he
   rw [e2,QcL]at this
   exact hyq this
  constructor
  ·show(bif decide ((q:Int)<0)then some m else(QcE (fun st p=>QaU (n:Int) y (q:Int) st p.1 p.2) m m).bind (Sum.elim (fun z=>Qif (q:Int) y z) (fun z=>Empty.elim z)))=_
   rw [Qa8 (by omega),cond_false,QFe h.knd hc,Qi]
   rfl
  obtain⟨rs,hsys,hperm⟩:=h.sys
  obtain⟨be,hb,hrel⟩:=r2.rel
  let up:Nat×Vec→Vec:=fun u=>vec (QbP n ((List.range n).map u.2) y q)
  have hrow:∀e∈m,(List.range n).map (vec e.2)=e.2:=fun e he=>by
   have hl2:=(h.keys e he).2.2.1
   refine Qyp (by simp [hl2]) fun j=>?_
   by_cases hj:j<n
   ·rw [QdM (by simpa using hj)];simp
   rw [QeT (by simp;omega),QeT (by omega)]
  have hup:∀e∈m,up (pv e)=vec (QbP n e.2 y q):=fun e he=>by
   show vec (QbP n ((List.range n).map (vec e.2)) y q)=_
   rw [hrow e he]
  have upf:∀e∈m,up (pv e) q=0∧(∃g b c:Int,g≠0∧b≠0∧∀j,g*up (pv e) j=b*vec e.2 j-c*vec y j)∧(∀j,j<e.1.toNat→up (pv e) j=0):=fun e he=>by
   rw [hup e he]
   obtain⟨k1,k2,k3,k4⟩:=h.keys e he
   by_cases h0:vec e.2 q=0
   ·have hcl:QbP n e.2 y q=e.2:=by unfold QbP;rw [if_pos h0]
    rw [hcl]
    exact⟨h0,⟨1,1,0,by decide,by decide,fun j=>by simp⟩,k4⟩
   obtain⟨c,hc,hcr⟩:=QAY (k:=q) k3 r2.len h0
   have hz:∀j,vec y q*vec e.2 j-vec e.2 q*vec y j=0→vec (QbP n e.2 y q) j=0:=fun j e3=>by
    have:=hcr j
    rw [e3]at this
    exact(QjG.1 this).resolve_left (by omega)
   refine⟨hz q (by rw [QkX];omega),⟨(c:Int),vec y q,vec e.2 q,by omega,hyq,hcr⟩,fun j hj=>hz j ?_⟩
   have hpq:e.1.toNat≤q:=by
    cases QdB q e.1.toNat with
    | inl h3=>exact absurd (k4 q h3) h0
    | inr h3=>exact h3
   rw [k4 j hj,hfirst j (by omega)];simp
  have nsys:=hsys.add (v:=vec row) (y:=vec y) (q:=q) (al:=QfG (vec row) m) (be:=(be:Int)) (QsF h _ m fun q hq=>hq) (by omega) (hrel.mono fun u hu=>.mem u (by
    exact((hperm.map Prod.snd).mem_iff).2 hu)) (fun u hu=>by
    obtain⟨e,he,rfl⟩:=QG.1 (hperm.mem_iff.1 hu)
    exact hyz e he) hyq hyp up (fun u hu=>by
    obtain⟨e,he,rfl⟩:=QG.1 (hperm.mem_iff.1 hu)
    obtain⟨u1,u2,u3⟩:=upf e he
    refine⟨?_,u1,u2⟩
    rw [hup e he]
    refine(QAl (.inl (h.prim he))).resolve_right fun hz=>?_
    obtain⟨g,b,c,hg,hb2,he2⟩:=u2
    have h1:=he2 e.1.toNat
    rw [hyz e he,hup e he,hz]at h1
    rw [Qhd,Qhd,Int.sub_zero]at h1
    rcases QjG.1 h1.symm with h2 | h2
    ·exact hb2 h2
    exact h.red.ne (pv e) (QG.2 ⟨e,he,rfl⟩) h2)
  have hkn:QR (m.map fun e=>(e.1,QbP n e.2 y q)) (q:Int)=none:=QAm (by
   intro hm;apply hkq
   simpa [Qer,Function.comp_def] using hm)
  have hset:(QaR ltI (m.map fun e=>(e.1,QbP n e.2 y q)) (q:Int) y).Perm (((q:Int),y)::m.map fun e=>(e.1,QbP n e.2 y q)):=by
   unfold QaR
   rw [hkn]
   exact mins_perm _ _ _ _
  have hp2:((q,vec y)::rs.map fun u=>(u.1,up u)).Perm ((QaR ltI (m.map fun e=>(e.1,QbP n e.2 y q)) (q:Int) y).map pv):=by
   refine List.Perm.trans ?_ (hset.map pv).symm
   rw [QaZ,Qer]
   refine List.Perm.cons _ ?_
   refine(hperm.map fun u=>(u.1,up u)).trans ?_
   rw [Qer]
   refine List.Perm.of_eq (QjH fun e he=>?_)
   show((pv e).1,up (pv e))=pv (e.1,QbP n e.2 y q)
   rw [hup e he];rfl
  have vp:∀v,v∈((q,vec y)::rs.map fun u=>(u.1,up u)).map Prod.snd→v∈QlX (QaR ltI (m.map fun e=>(e.1,QbP n e.2 y q)) (q:Int) y):=fun v hv=>((hp2.map Prod.snd).mem_iff).1 hv
  refine⟨vec row::vs,⟨fun e he=>?_,?_,⟨_,nsys,hp2⟩,?_⟩,fun x hx=>?_,(nsys.spn _ Q5).sub vp⟩
  ·rcases Qaa.1 (hset.mem_iff.1 he)with rfl | he
   ·exact⟨by simp,by simpa using hqn,r2.len,by simpa using hfirst⟩
   obtain⟨x,hx,rfl⟩:=QG.1 he
   obtain⟨k1,k2,k3,k4⟩:=h.keys x hx
   refine⟨k1,k2,QAj k3,fun j hj=>?_⟩
   have:=(upf x hx).2.2 j hj
   rw [hup x hx]at this
   exact this
  ·rw [←(hp2.map Prod.fst).nodup_iff]
   exact nsys.red.nd
  ·intro v hv2
   rcases Qaa.1 hv2 with rfl | hv2
   ·exact hv
   exact h.mag v hv2
  refine(Qae.keep (q:=q) (up:=up) (y:=vec y) (rs:=rs) (fun u hu=>?_) (hx.sub fun v hv=>((hperm.map Prod.snd).mem_iff).2 hv)).sub vp
  obtain⟨e,he,rfl⟩:=QG.1 (hperm.mem_iff.1 hu)
  obtain⟨_,⟨g,b,c,_,hb2,he2⟩,_⟩:=upf e he
  exact⟨g,b,c,hb2,he2⟩
end
end Go.Proofs
noncomputable section
namespace Go.Proofs
open Go Go.RowKit Go.Vm
theorem QpH {w:List Int}{p:Nat}(h:p<w.length)(v:Int)(j:Nat):vec (w.set p v) j=if j=p then v else vec w j:=by
 unfold vec
 rw [QkZ,QkZ,List.getElem?_set]
 by_cases e:p=j
 ·subst e;rw [if_pos rfl,if_pos rfl,if_pos h];rfl
 rw [if_neg e,if_neg (fun e2=>e e2.symm)]
def dd (place:Nat)(e:Int×List Int):Nat:=(vec e.2 e.1.toNat).natAbs / Nat.gcd (vec e.2 e.1.toNat).natAbs (vec e.2 place).natAbs
def Qr2 (place:Nat)(L:Nat)(T:QaC):Nat:=T.foldl (fun L e=>Nat.lcm L (dd place e)) L
def QqE (place L:Nat)(e:Int×List Int):Int:=Int.tdiv (-(vec e.2 place)*(L:Int)) (vec e.2 e.1.toNat)
def Qjb (place L:Nat)(w:List Int)(T:QaC):List Int:=T.foldl (fun w e=>w.set e.1.toNat (QqE place L e)) w
section
variable {n:Nat}{vs:List Vec}{m:QaC}
theorem Slv.ne (h:Slv n vs m){e:Int×List Int}(he:e∈m):vec e.2 e.1.toNat≠0:=h.red.ne (pv e) (QG.2 ⟨e,he,rfl⟩)
theorem Slv.det (h:Slv n vs m)(hn:n≤8):∃D:Nat,0<D∧D≤2642411520∧∀e∈m,∃t:Nat,D=(vec e.2 e.1.toNat).natAbs*t∧∀j,t*(vec e.2 j).natAbs≤2642411520:=by
 obtain⟨rs,hs,hp⟩:=h.sys
 refine⟨(Vm.det vs (rs.map Prod.fst)).natAbs,QqR.2 hs.det,?_,fun e he=>?_⟩
 ·refine Qaw (QsE vs _ h.mag (by rw [hs.len];simp)) ?_
  have:∀k,k<9→fac k*4 ^ k≤2642411520:=by decide
  exact this _ (by have h1:=h.len;have h2:=h.vlen;omega)
 have hm:pv e∈rs:=hp.mem_iff.2 (QG.2 ⟨e,he,rfl⟩)
 obtain⟨p,s,hps⟩:=Qvc hm
 obtain⟨t,_,t2,t3⟩:=hs.cram hps
 refine⟨t.natAbs,by rw [t2,QhS];rfl,fun j=>?_⟩
 have h9:∀k,k<9→fac k*4 ^ k≤2642411520:=by decide
 have h1:=QsE vs (p.map Prod.fst++j::s.map Prod.fst) h.mag (by rw [hs.len,hps];simp)
 rw [t3 j,QhS]at h1
 exact Qaw h1 (h9 _ (by have h1:=h.len;have h2:=h.vlen;omega))
theorem QCJ (place:Nat)(e:Int×List Int):dd place e ∣ (vec e.2 e.1.toNat).natAbs:=Nat.div_dvd_of_dvd (Nat.gcd_dvd_left _ _)
theorem QFf {a b:Nat}(ha:0<a):a / Nat.gcd a b*b=Nat.lcm a b:=by
 have hg:0<Nat.gcd a b:=QwS _ ha
 obtain⟨k,hk⟩:=Nat.gcd_dvd_left a b
 unfold Nat.lcm
 generalize Nat.gcd a b=g at *
 subst hk
 rw [Qr4 _ hg,Qox,Qr4 _ hg]
theorem QFg (h:Slv n vs m)(hn:n≤8){place:Nat}(hpl:place<n){D:Nat}(hD:0<D)(hD2:D≤2642411520)(hd:∀e∈m,(vec e.2 e.1.toNat).natAbs ∣ D):∀(T:QaC) (L:Nat),(∀e∈T,e∈m)→0<L→L ∣ D→
  QbA (fun st p=>Qba (place:Int) st p.1 p.2) (L:Int) T=some (.inl (Qr2 place L T:Int))∧0<Qr2 place L T∧Qr2 place L T ∣ D
 | [],L,_,h1,h2=>⟨rfl,h1,h2⟩
 | e::T,L,hT,h1,h2=>by
  have he:=hT e Q5
  obtain⟨k1,k2,k3,k4⟩:=h.keys e he
  have hL:=Nat.le_of_dvd hD h2
  have ma:=h.le hn he e.1.toNat
  have mb:=h.le hn he place
  have hne:=h.ne he
  have ddv:dd place e ∣ D:=Nat.dvd_trans (QCJ place e) (hd e he)
  have ddp:0<dd place e:=Nat.pos_of_dvd_of_pos (QCJ place e) (QqR.2 hne)
  have hlc:Nat.lcm L (dd place e) ∣ D:=Nat.lcm_dvd h2 ddv
  have hlp:0<Nat.lcm L (dd place e):=Nat.lcm_pos h1 ddp
  have hll:=Nat.le_of_dvd hD hlc
  have step:Qba (place:Int) (L:Int) e.1 e.2=some (.inl (Nat.lcm L (dd place e):Int)):=by
   unfold Qba
   rw [k1,QN,Qc6 (by omega),Qi,Qi,QN,Qc6 (by omega),Qi]
   have hdd:(vec e.2 e.1.toNat).natAbs / Nat.gcd (vec e.2 e.1.toNat).natAbs (vec e.2 place).natAbs=dd place e:=rfl
   generalize vec e.2 e.1.toNat=a at *
   generalize vec e.2 place=b at *
   have hg:0<Nat.gcd a.natAbs b.natAbs:=QwS _ (QqR.2 hne)
   rw [QAg (show Sm a by unfold Sm;omega) (show Sm b by unfold Sm;omega),Qi,QlG (by simp;omega),Qi]
   have da:(Int.tdiv a (Nat.gcd a.natAbs b.natAbs:Int)).natAbs=dd place e:=by
    rw [Int.natAbs_tdiv];exact hdd
   generalize Int.tdiv a (Nat.gcd a.natAbs b.natAbs:Int)=d at *
   have dl:=Nat.le_of_dvd hD ddv
   have wd:w64 d=d:=Q6 (by omega)
   have wn:w64 (0-d)=-d:=by rw [Q6 (by omega)];omega
   rw [wd,QAg (show Sm (L:Int) by unfold Sm;omega) (show Sm d by unfold Sm;omega),Qi]
   have e1:(L:Int).natAbs=L:=rfl
   rw [e1,da]
   have hg2:0<Nat.gcd L (dd place e):=QwS _ h1
   rw [QlG (by simp;omega),Qi,wn]
   have e2:max2 d (-d)=(dd place e:Int):=by rw [←da];unfold max2;split<;>omega
   have e3:Int.tdiv (L:Int) (Nat.gcd L (dd place e):Int)=((L / Nat.gcd L (dd place e):Nat):Int):=(Int.ofNat_tdiv _ _).symm
   have e4:=QFf (b:=dd place e) h1
   have le1:L / Nat.gcd L (dd place e)≤L:=Nat.div_le_self _ _
   have w1:w64 ((L / Nat.gcd L (dd place e):Nat):Int)=((L / Nat.gcd L (dd place e):Nat):Int):=by
    generalize L / Nat.gcd L (dd place e)=u at le1 ⊢
    exact Q6 (by omega)
   have w2:w64 ((Nat.lcm L (dd place e):Nat):Int)=((Nat.lcm L (dd place e):Nat):Int):=by
    generalize Nat.lcm L (dd place e)=u at hll ⊢
    exact Q6 (by omega)
   rw [e2,e3,w1,←Int.natCast_mul,e4,w2]
  have ih:=QFg h hn hpl hD hD2 hd T (Nat.lcm L (dd place e)) (fun x hx=>hT x (Qab _ hx)) hlp hlc
  refine⟨?_,ih.2⟩
  rw [QbA]
  show(Qba (place:Int) (L:Int) e.1 e.2).bind _=_
  rw [step,Qi]
  exact ih.1
theorem Qtv {place:Nat}:∀(T:QaC) (L:Nat),L ∣ Qr2 place L T∧∀e∈T,dd place e ∣ Qr2 place L T
 | [],L=>⟨Nat.dvd_refl _,fun e h=>by cases h⟩
 | x::T,L=>by
  have ih:=Qtv (place:=place) T (Nat.lcm L (dd place x))
  refine⟨Nat.dvd_trans (Nat.dvd_lcm_left _ _) ih.1,fun e he=>?_⟩
  rcases Qaa.1 he with rfl | he
  ·exact Nat.dvd_trans (Nat.dvd_lcm_right _ _) ih.1
  exact ih.2 e he
theorem QFh (h:Slv n vs m)(hn:n≤8){place:Nat}(hpl:place<n){L:Nat}(hL:L≤2642411520):∀(T:QaC) (w:List Int),(∀e∈T,e∈m)→w.length=n→
  QbA (fun st p=>Qbb (place:Int) (L:Int) st p.1 p.2) w T=some (.inl (Qjb place L w T))
 | [],w,_,_=>rfl
 | e::T,w,hT,hw=>by
  have he:=hT e Q5
  obtain⟨k1,k2,k3,k4⟩:=h.keys e he
  have ma:=h.le hn he e.1.toNat
  have mb:=h.le hn he place
  have hne:=h.ne he
  have step:Qbb (place:Int) (L:Int) w e.1 e.2=some (.inl (w.set e.1.toNat (QqE place L e))):=by
   unfold Qbb QqE
   rw [QN,Qc6 (by omega),Qi,k1,QN,Qc6 (by omega),Qi,QcL]
   have hwk:idx w (e.1.toNat:Int)=some (vec w e.1.toNat):=by rw [QN,Qc6 (by omega)]
   rw [hwk]
   generalize vec e.2 e.1.toNat=a at *
   generalize vec e.2 place=b at *
   have pr:((-b)*(L:Int)).natAbs≤82575360*2642411520:=by
    rw [QhS];exact QpJ (by omega) (by omega)
   rw [QlG (by simpa using hne),Qi,Qi]
   have e0:(0:Int)-b=-b:=by omega
   rw [e0,Q6 (n:=-b) (by omega),Q6 (n:=-b*(L:Int)) (by omega)]
   have e5:(Int.tdiv (-b*(L:Int)) a).natAbs≤82575360*2642411520:=by
    rw [Int.natAbs_tdiv];exact Qaw (Nat.div_le_self _ _) pr
   rw [Q6 (n:=Int.tdiv (-b*(L:Int)) a) (by omega)]
  have ih:=QFh h hn hpl hL T (w.set e.1.toNat (QqE place L e)) (fun x hx=>hT x (Qab _ hx)) (by rw [List.length_set];exact hw)
  rw [QbA]
  show(Qbb (place:Int) (L:Int) w e.1 e.2).bind _=_
  rw [step,Qi]
  exact ih
theorem Qtw {place L:Nat}:∀(T:QaC) (w:List Int),(Qjb place L w T).length=w.length
 | [],w=>rfl
 | e::T,w=>by
  show(Qjb place L (w.set e.1.toNat (QqE place L e)) T).length=_
  rw [Qtw T,List.length_set]
theorem QmZ {place L:Nat}{j:Nat}:∀(T:QaC) (w:List Int),(∀e∈T,e.1.toNat<w.length∧e.1.toNat≠j)→vec (Qjb place L w T) j=vec w j
 | [],w,_=>rfl
 | e::T,w,h=>by
  show vec (Qjb place L (w.set e.1.toNat (QqE place L e)) T) j=_
  obtain⟨h1,h2⟩:=h e Q5
  rw [QmZ T _ fun x hx=>by rw [List.length_set];exact h x (Qab _ hx),QpH h1,if_neg (fun e2=>h2 e2.symm)]
theorem QsG {place L:Nat}{e:Int×List Int}:∀(T:QaC) (w:List Int),(∀x∈T,x.1.toNat<w.length)→(T.map fun x=>x.1.toNat).Nodup→e∈T→vec (Qjb place L w T) e.1.toNat=QqE place L e
 | [],w,_,_,h=>by cases h
 | x::T,w,h,hn,he=>by
  rw [QaZ,Qdo]at hn
  show vec (Qjb place L (w.set x.1.toNat (QqE place L x)) T) e.1.toNat=_
  have h2:∀y∈T,y.1.toNat<(w.set x.1.toNat (QqE place L x)).length:=fun y hy=>by rw [List.length_set];exact h y (Qab _ hy)
  rcases Qaa.1 he with e2 | he
  ·subst e2
   rw [QmZ T _ fun y hy=>⟨h2 y hy,fun e3=>hn.1 (QG.2 ⟨y,hy,e3⟩)⟩,QpH (h e Q5),if_pos rfl]
  exact QsG T _ h2 hn.2 he
theorem Slv.tnd (h:Slv n vs m){A:QaC}(hA:A.Perm m):(A.map fun x=>x.1.toNat).Nodup:=by
 have:=QAZ h hA
 simpa [Qer,Function.comp_def,pv] using this
theorem QEj (h:Slv n vs m)(hn:n≤8){place:Nat}(hpl:place<n)(hfree:(place:Int) ∉ m.map Prod.fst):
  ∃(w:List Int) (L:Nat),Qcz (n:Int) m (place:Int)=some w∧w.length=n∧0<L∧L≤2642411520∧vec w place=(L:Int)∧(∀j,j≠place→(∀e∈m,e.1.toNat≠j)→vec w j=0)∧
   (∀e∈m,vec w e.1.toNat*vec e.2 e.1.toNat=-(vec e.2 place)*(L:Int))∧∀j,(vec w j).natAbs≤2642411520:=by
 obtain⟨D,hD,hD2,hdt⟩:=h.det hn
 have hd:∀e∈m,(vec e.2 e.1.toNat).natAbs ∣ D:=fun e he=>let ⟨t,h1,_⟩:=hdt e he;⟨t,h1⟩
 have g1:=fun (A:QaC) (hA:A.Perm m)=>QFg h hn hpl hD hD2 hd A 1 (fun e he=>hA.mem_iff.1 he) (by omega) (Nat.one_dvd _)
 have lp:∀A:QaC,A.Perm m→Qr2 place 1 A=Qr2 place 1 m:=fun A hA=>by
  have a1:=Qtv (place:=place) A 1
  have a2:=Qtv (place:=place) m 1
  have up:∀(T:QaC) (L K:Nat),L ∣ K→(∀e∈T,dd place e ∣ K)→Qr2 place L T ∣ K:=by
   intro T
   induction T with
   | nil=>intro L K h1 _;exact h1
   | cons x T ih=>intro L K h1 h2;exact ih _ K (Nat.lcm_dvd h1 (h2 x Q5)) fun e he=>h2 e (Qab _ he)
  exact Nat.dvd_antisymm (up A 1 _ (Nat.one_dvd _) fun e he=>a2.2 e (hA.mem_iff.1 he)) (up m 1 _ (Nat.one_dvd _) fun e he=>a1.2 e (hA.mem_iff.2 he))
 have r1:QcE (fun st p=>Qba (place:Int) st p.1 p.2) 1 m=some (.inl (Qr2 place 1 m:Int)):=
  Qd0.2 ⟨fun l' hl'=>by
   have x1:=(g1 l' hl').1
   have x2:=(g1 m (List.Perm.refl _)).1
   rw [lp l' hl']at x1
   exact x1.trans x2.symm,(g1 m (List.Perm.refl _)).1⟩
 obtain⟨_,Lp,Ld⟩:=g1 m (List.Perm.refl _)
 have hdvd:=(Qtv (place:=place) m 1).2
 generalize Qr2 place 1 m=L at *
 have LL:=Nat.le_of_dvd hD Ld
 have wl:((List.replicate (n:Int).toNat (0:Int)).set place (L:Int)).length=n:=by simp
 have w0:∀j,vec ((List.replicate (n:Int).toNat (0:Int)).set place (L:Int)) j=if j=place then(L:Int)else 0:=fun j=>by
  rw [QpH (by simpa using hpl)]
  have z:vec (List.replicate (n:Int).toNat (0:Int)) j=0:=by
   by_cases hj:j<n
   ·rw [QdM (by simpa using hj)];simp
   exact QeT (by simp;omega)
  rw [z]
 have kl:∀A:QaC,A.Perm m→∀e∈A,e.1.toNat<((List.replicate (n:Int).toNat (0:Int)).set place (L:Int)).length:=fun A hA e he=>by
  rw [wl];exact(h.keys e (hA.mem_iff.1 he)).2.1
 have sp:∀A:QaC,A.Perm m→Qjb place L ((List.replicate (n:Int).toNat (0:Int)).set place (L:Int)) A=Qjb place L ((List.replicate (n:Int).toNat (0:Int)).set place (L:Int)) m:=fun A hA=>by
  refine Qyp (by rw [Qtw,Qtw]) fun j=>?_
  by_cases hj:∃e∈m,e.1.toNat=j
  ·obtain⟨e,he,rfl⟩:=hj
   rw [QsG A _ (kl A hA) (h.tnd hA) (hA.mem_iff.2 he),QsG m _ (kl m (List.Perm.refl _)) (h.tnd (List.Perm.refl _)) he]
  rw [QmZ A _ fun e he=>⟨kl A hA e he,fun e2=>hj ⟨e,hA.mem_iff.1 he,e2⟩⟩,QmZ m _ fun e he=>⟨kl m (List.Perm.refl _) e he,fun e2=>hj ⟨e,he,e2⟩⟩]
 have g2:=fun (A:QaC) (hA:A.Perm m)=>QFh h hn hpl (L:=L) (by omega) A ((List.replicate (n:Int).toNat (0:Int)).set place (L:Int)) (fun e he=>hA.mem_iff.1 he) wl
 have r2:QcE (fun st p=>Qbb (place:Int) (L:Int) st p.1 p.2) ((List.replicate (n:Int).toNat (0:Int)).set place (L:Int)) m=some (.inl (Qjb place L ((List.replicate (n:Int).toNat (0:Int)).set place (L:Int)) m)):=
  Qd0.2 ⟨fun l' hl'=>by rw [g2 l' hl',g2 m (List.Perm.refl _),sp l' hl'],g2 m (List.Perm.refl _)⟩
 have hkp:∀e∈m,e.1.toNat≠place:=fun e he e2=>hfree (QG.2 ⟨e,he,by rw [(h.keys e he).1,e2]⟩)
 refine⟨Qjb place L ((List.replicate (n:Int).toNat (0:Int)).set place (L:Int)) m,L,?_,by rw [Qtw];exact wl,Lp,by omega,?_,?_,?_,?_⟩
 ·unfold Qcz
  rw [r1,Qi]
  show Qcu (n:Int) (place:Int) m (L:Int)=_
  unfold Qcu
  rw [QlG (by simp;omega),Qi,QN,Qc6 (by simpa using hpl),Qi,QcL (n:=place),r2]
  rfl
 ·rw [QmZ m _ fun e he=>⟨kl m (List.Perm.refl _) e he,hkp e he⟩,w0,if_pos rfl]
 ·intro j hj hk
  rw [QmZ m _ fun e he=>⟨kl m (List.Perm.refl _) e he,hk e he⟩,w0,if_neg hj]
 ·intro e he
  rw [QsG m _ (kl m (List.Perm.refl _)) (h.tnd (List.Perm.refl _)) he]
  unfold QqE
  refine Int.tdiv_mul_cancel (Int.natAbs_dvd_natAbs.1 ?_)
  rw [QhS,Int.natAbs_neg]
  obtain⟨x,hx⟩:=hdvd e he
  show _ ∣ _*L
  rw [hx]
  unfold dd
  obtain⟨b,hb⟩:=Nat.gcd_dvd_right (vec e.2 e.1.toNat).natAbs (vec e.2 place).natAbs
  obtain⟨a,ha⟩:=Nat.gcd_dvd_left (vec e.2 e.1.toNat).natAbs (vec e.2 place).natAbs
  have hg:0<Nat.gcd (vec e.2 e.1.toNat).natAbs (vec e.2 place).natAbs:=QwS _ (QqR.2 (h.ne he))
  generalize Nat.gcd (vec e.2 e.1.toNat).natAbs (vec e.2 place).natAbs=g at *
  rw [ha,hb,Qr4 _ hg]
  exact⟨b*x,by simp [Qox,QlY,Nat.mul_left_comm]⟩
 intro j
 by_cases hj:∃e∈m,e.1.toNat=j
 ·obtain⟨e,he,rfl⟩:=hj
  rw [QsG m _ (kl m (List.Perm.refl _)) (h.tnd (List.Perm.refl _)) he]
  obtain⟨t,t1,t2⟩:=hdt e he
  have hb:=t2 place
  unfold QqE
  rw [Int.natAbs_tdiv,QhS,Int.natAbs_neg]
  show _*L / _≤_
  refine Qaw (Nat.div_le_of_le_mul (m:=(vec e.2 place).natAbs*L) (k:=(vec e.2 e.1.toNat).natAbs) (n:=t*(vec e.2 place).natAbs) ?_) hb
  have:(vec e.2 place).natAbs*L≤(vec e.2 place).natAbs*((vec e.2 e.1.toNat).natAbs*t):=Nat.mul_le_mul_left _ (by omega)
  refine Qaw this (Nat.le_of_eq ?_)
  ac_rfl
 rw [QmZ m _ fun e he=>⟨kl m (List.Perm.refl _) e he,fun e2=>hj ⟨e,he,e2⟩⟩,w0]
 split<;>omega
end
end Go.Proofs
noncomputable section
namespace Go.Proofs
open Go Go.RowKit Go.Vm
def QlJ (x:Int):Bool:=decide (4<max2 x (w64 (0-x)))
theorem QAJ {x:Int}(hx:-32≤x∧x≤32)(h:QlJ x=false):x.natAbs≤4:=by
 unfold QlJ at h
 rw [Q6 (by omega),QY]at h
 unfold max2 at h
 split at h<;>omega
theorem QAK {e:List Int}(hl:e.length≤maxLen):QiH e=some (e.any QlJ):=by
 unfold QiH Qdu Qep
 rw [QrB (l:=e) QlJ (fun i x hi hx=>by
  show QaG e i=_
  unfold QaG
  rw [Qa4 (by omega),cond_true,QN,hx,Qi,show QkC x=some (QlJ x)from rfl,Qi,Qw hi hl]
  cases QlJ x<;>rfl) (by
  show QaG e e.length=_
  unfold QaG
  rw [Qa8 (by omega),cond_false]),←QAc]
 cases Qdt (fun _ x=>QlJ x) 0 e<;>rfl
theorem QAL {l:List (List Int)}(hl:l.length≤maxLen)(he:∀e∈l,e.length≤maxLen):QcM l=some (l.any fun e=>e.any QlJ):=by
 unfold QcM QfA
 rw [QrB (l:=l) (fun e=>e.any QlJ) (fun i x hi hx=>by
  show Qa5 l i=_
  unfold Qa5
  rw [Qa4 (by omega),cond_true,QN,hx,Qi,QAK (he x (QaL hx)),Qi,Qw hi hl]
  cases (x.any QlJ)<;>rfl) (by
  show Qa5 l l.length=_
  unfold Qa5
  rw [Qa8 (by omega),cond_false]),←QAc]
 cases Qdt (fun _ e=>e.any QlJ) 0 l<;>rfl
theorem Slv.nil (n:Nat):Slv n [] []:=by
 have r:Red []:=⟨List.nodup_nil,(fun q h=>by cases h),(fun q h=>by cases h)⟩
 have s:Qof [] []:=⟨r,(fun q h=>by cases h),(fun q h=>by cases h),by decide,rfl⟩
 exact⟨(fun q h=>by cases h),List.nodup_nil,⟨[],s,List.Perm.refl _⟩,(fun v h=>by cases h)⟩
structure Qog (N:Nat) (m:QaC) (p:Nat) (w:List Int):Prop where
 lt:p<N
 fr:(p:Int) ∉ m.map Prod.fst
 len:w.length=N
 pos:0<vec w p
 out:∀j,j≠p→(∀e∈m,e.1.toNat≠j)→vec w j=0
 hi:∀j,p<j→vec w j=0
 le:∀j,(vec w j).natAbs≤2642411520
 piv:∃L:Nat,0<L∧L≤2642411520∧vec w p=(L:Int)∧∀e∈m,vec w e.1.toNat*vec e.2 e.1.toNat=-(vec e.2 p)*(L:Int)
theorem QDI {n:Nat}{vs:List Vec}{m:QaC}(h:Slv n vs m)(hn:n≤8){p:Nat}(hp:p<n)(hf:(p:Int) ∉ m.map Prod.fst):∃w,Qcz (n:Int) m (p:Int)=some w∧Qog n m p w:=by
 obtain⟨w,L,h1,h2,h3,h4,h5,h6,h7,h8⟩:=QEj h hn hp hf
 refine⟨w,h1,hp,hf,h2,by omega,h6,fun j hj=>?_,h8,L,h3,h4,h5,h7⟩
 by_cases hk:∃e∈m,e.1.toNat=j
 ·obtain⟨e,he,rfl⟩:=hk
  have:=h7 e he
  rw [(h.keys e he).2.2.2 p hj]at this
  have h0:vec w e.1.toNat*vec e.2 e.1.toNat=0:=by rw [this];simp
  exact(QjG.1 h0).resolve_right (h.ne he)
 exact h6 j (by omega) fun e he e2=>hk ⟨e,he,e2⟩
theorem QEk {m:QaC}{k:Int}(h:QR m k=none):k ∉ m.map Prod.fst:=by
 induction m with
 | nil=>intro hm;cases hm
 | cons e m ih=>
  obtain⟨a,x⟩:=e
  rw [Qaf]at h
  by_cases ha:a=k
  ·rw [if_pos ha]at h;cases h
  rw [if_neg ha]at h
  intro hm
  rcases Qaa.1 hm with hm | hm
  ·exact ha hm.symm
  exact ih h hm
def QrD (k:Nat):Vec:=fun j=>if j=k then 1 else 0
def QEl (n:Qk)(m:QaC):Prop:=∃F E,Qbc n=some F∧Qc9 n 2048 F∧QaD n=some E∧E.length≤1000∧(∀k∈E,0≤k∧k<(n.Places.length:Int))∧(∀e∈F,Qae (QlX m) (vec e)∧∀j,(vec e j).natAbs≤4)∧∀k∈E,Qae (QlX m) (QrD k.toNat)
def QEm (n:Qk)(N:Nat)(r:List (List Int)×Int):Prop:=(r.2=2∧r.1=[])∨(r.2=0∧N≤8∧∃(vs:List Vec) (m:QaC) (ps:List Nat),Slv N vs m∧List.Pairwise (fun a b:Nat=>a<b) ps∧ps.length=r.1.length∧(∀(i p:Nat) (w:List Int),ps[i]? = some p→r.1[i]? = some w→Qog N m p w)∧QEl n m)
theorem QEn {n:Qk}{e:List Int}(h:Eff n 32 e)(hg:e.any QlJ=false):∀j,(vec e j).natAbs≤4:=fun j=>by
 by_cases hj:j<e.length
 ·rw [QdM hj]
  have h1:=List.any_eq_false.1 hg _ (QaQ hj)
  exact QAJ (h.2 _ (QaQ hj)) (by simpa using h1)
 rw [QeT (by omega)];simp
theorem QBQ (n:Qk)(h:Qay n)(hp:n.Places.length≤12)(ht:n.Tasks.length≤8):Qf (QfB n) (QEm n n.Places.length):=by
 have m1:(2048:Nat)≤maxLen:=by decide
 unfold QfB
 obtain⟨x6,e6,h6⟩:=QAb n hp ht
 rw [e6,Qi]
 have l6:x6.length≤2048:=by have:=h6.1;omega
 unfold Qp1
 by_cases h8:n.Places.length≤8
 ·rw [Qa8 (show ¬(8:Int)<(n.Places.length:Int) by omega),cond_false,QAL (by omega) (fun e he=>by have:=(h6.2 e he).1;omega),Qi,Qi]
  unfold Qgw
  cases hg:(x6.any fun e=>e.any QlJ)with
  | true=>exact T2 (.inl ⟨rfl,rfl⟩)
  | false=>
   rw [cond_false]
   have mag:∀e∈x6,∀j,(vec e j).natAbs≤4:=fun e he=>QEn (h6.2 e he) (by
    have:=List.any_eq_false.1 hg e he
    simpa using this)
   have s1:=QlH (body:=fun st:Int×QaC=>Qdv x6 n st.1 st.2) x6.length (fun i s=>s.1=(i:Int)∧∃vs,Slv n.Places.length vs s.2∧∀e∈x6.take i,Qae (QlX s.2) (vec e)) (fun r=>∃vs,Slv n.Places.length vs r∧∀e∈x6,Qae (QlX r) (vec e)) (fun i s hi hs=>by
    obtain⟨a,m⟩:=s
    obtain⟨rfl,vs,hv,hsp⟩:=hs
    left
    have hx:x6[i]? = some x6[i]:=QD hi
    have hmem:=QaQ hi
    show ∃s',Qdv x6 n (i:Int) m=_∧_
    unfold Qdv
    obtain⟨g1,vs',g2,g3,g4⟩:=QCI hv h8 (h6.2 _ hmem).1 (mag _ hmem)
    rw [Qa4 (show(i:Int)<(x6.length:Int) by omega),cond_true,QN,hx,Qi,g1,Qi]
    refine⟨_,rfl,Qw hi (by omega),vs',g2,fun e he=>?_⟩
    rw [Qdp,hx]at he
    rcases Qco.1 he with he | he
    ·exact g3 _ (hsp e he)
    ·simp at he;subst he;exact g4) (fun s hs=>by
    obtain⟨a,m⟩:=s
    obtain⟨rfl,vs,hv,hsp⟩:=hs
    refine⟨m,?_,vs,hv,by rw [Qk3]at hsp;exact hsp⟩
    show Qdv x6 n (x6.length:Int) m=_
    unfold Qdv
    rw [Qa8 (by omega)];rfl) (0,[]) ⟨rfl,[],Slv.nil _,(fun e h=>by simp at h)⟩
   obtain⟨m18,hm18,vs1,hv1,sp1⟩:=s1
   rw [hm18,Qi]
   unfold QmM
   obtain⟨x23,e23,h23⟩:=QAd n h ht
   rw [e23,Qi]
   have s2:=QlH (body:=fun st:Int×QaC=>Qdw x23 n st.1 st.2) x23.length (fun i s=>s.1=(i:Int)∧∃vs,Slv n.Places.length vs s.2∧(∀e∈x6,Qae (QlX s.2) (vec e))∧∀k∈x23.take i,Qae (QlX s.2) (QrD k.toNat)) (fun r=>∃vs,Slv n.Places.length vs r∧(∀e∈x6,Qae (QlX r) (vec e))∧∀k∈x23,Qae (QlX r) (QrD k.toNat)) (fun i s hi hs=>by
    obtain⟨a,m⟩:=s
    obtain⟨rfl,vs,hv,hs1,hsp⟩:=hs
    left
    have hx:x23[i]? = some x23[i]:=QD hi
    obtain⟨k0,k1⟩:=h23.2 _ (QaQ hi)
    show ∃s',Qdw x23 n (i:Int) m=_∧_
    unfold Qdw
    have kk:x23[i]=((x23[i].toNat:Nat):Int):=by omega
    have kl:x23[i].toNat<(List.replicate (n.Places.length:Int).toNat (0:Int)).length:=by simp;omega
    obtain⟨g1,vs',g2,g3,g4⟩:=QCI hv h8 (row:=(List.replicate (n.Places.length:Int).toNat (0:Int)).set x23[i].toNat 1) (by simp) (fun j=>by
     rw [QpH kl]
     split
     ·decide
     have:vec (List.replicate (n.Places.length:Int).toNat (0:Int)) j=0:=by
      by_cases hj:j<n.Places.length
      ·rw [QdM (by simpa using hj)];simp
      exact QeT (by simp;omega)
     rw [this];decide)
    have hidx:idx (List.replicate (n.Places.length:Int).toNat (0:Int)) x23[i]=some 0:=by
     rw [Qm3 k0,QD kl];simp
    rw [Qa4 (show(i:Int)<(x23.length:Int) by omega),cond_true,QN,hx,Qi,QlG (by simp;omega),Qi,hidx,Qi]
    have e2:∀(s1:Int) (m2:QaC) (row:List Int),Qig s1 m2 row=Qe9 s1 m2 row:=fun _ _ _=>rfl
    rw [e2,g1,Qi]
    refine⟨_,rfl,Qw hi (by have:=h23.1;omega),vs',g2,fun e he=>g3 _ (hs1 e he),fun e he=>?_⟩
    rw [Qdp,hx]at he
    rcases Qco.1 he with he | he
    ·exact g3 _ (hsp e he)
    ·simp at he
     subst he
     have e5:vec ((List.replicate (n.Places.length:Int).toNat (0:Int)).set x23[i].toNat 1)=QrD x23[i].toNat:=by
      funext j
      rw [QpH kl]
      unfold QrD
      have:vec (List.replicate (n.Places.length:Int).toNat (0:Int)) j=0:=by
       by_cases hj:j<n.Places.length
       ·rw [QdM (by simpa using hj)];simp
       exact QeT (by simp;omega)
      rw [this]
     rw [e5]at g4
     exact g4) (fun s hs=>by
    obtain⟨a,m⟩:=s
    obtain⟨rfl,vs,hv,hs1,hsp⟩:=hs
    refine⟨m,?_,vs,hv,hs1,by rw [Qk3]at hsp;exact hsp⟩
    show Qdw x23 n (x23.length:Int) m=_
    unfold Qdw
    rw [Qa8 (by omega)];rfl) (0,m18) ⟨rfl,vs1,hv1,sp1,(fun e h=>by simp at h)⟩
   obtain⟨m29,hm29,vs2,hv2,sp2,sp3⟩:=s2
   rw [hm29,Qi]
   unfold Qgv
   have s3:=QlH (body:=fun st:Int×List (List Int)=>QaX n m29 st.1 st.2) n.Places.length (fun i s=>s.1=(i:Int)∧s.2.length≤i∧∃ps:List Nat,List.Pairwise (fun a b:Nat=>a<b) ps∧(∀p∈ps,p<i)∧ps.length=s.2.length∧∀(k p:Nat) (w:List Int),ps[k]? = some p→s.2[k]? = some w→Qog n.Places.length m29 p w)
    (fun r=>∃ps:List Nat,List.Pairwise (fun a b:Nat=>a<b) ps∧ps.length=r.length∧∀(k p:Nat) (w:List Int),ps[k]? = some p→r[k]? = some w→Qog n.Places.length m29 p w) (fun i s hi hs=>by
    obtain⟨a,l⟩:=s
    obtain⟨rfl,hl,ps,p1,p2,p3,p4⟩:=hs
    have hl:l.length≤i:=hl
    have p3:ps.length=l.length:=p3
    have p4:∀(k p:Nat) (w:List Int),ps[k]? = some p→l[k]? = some w→Qog n.Places.length m29 p w:=p4
    left
    show ∃s',QaX n m29 (i:Int) l=_∧_
    unfold QaX QiJ
    rw [Qa4 (show(i:Int)<(n.Places.length:Int) by omega),cond_true,Qw hi (by omega)]
    cases hg:QR m29 (i:Int)with
    | some row=>
     have hrow:row.length=n.Places.length:=(hv2.keys _ (QsU hg)).2.2.1
     have hne:(!((some row).getD ([]:List Int)).isEmpty)=true:=by
      cases row with
      | nil=>simp at hrow;omega
      | cons _ _=>rfl
     rw [show(some row).isSome=true from rfl,cond_true,QlG hne,Qi]
     exact⟨_,rfl,rfl,by show l.length≤i+1;omega,ps,p1,fun p hp=>by have:=p2 p hp;omega,p3,p4⟩
    | none=>
     obtain⟨w,w1,w2⟩:=QDI hv2 h8 hi (QEk hg)
     rw [show(none:Option (List Int)).isSome=false from rfl,cond_false,w1,Qi,QnH (by simp;omega),Qi]
     refine⟨_,rfl,rfl,by show(l++[w]).length≤i+1;simp;omega,ps++[i],?_,?_,by show(ps++[i]).length=(l++[w]).length;simp [p3],?_⟩
     ·rw [List.pairwise_append]
      exact⟨p1,List.pairwise_singleton _ _,fun a ha b hb=>by rw [Qk2]at hb;have:=p2 a ha;omega⟩
     ·intro p hp
      rcases Qco.1 hp with hp | hp
      ·have:=p2 p hp;omega
      rw [Qk2]at hp;omega
     intro k p x hk hx
     have hx:(l++[w])[k]? = some x:=hx
     by_cases hlt:k<ps.length
     ·rw [QbR hlt]at hk
      rw [QbR (by omega)]at hx
      exact p4 k p x hk hx
     rw [Qcm (by omega)]at hk
     rw [Qcm (by omega)]at hx
     have:k-ps.length=0:=by
      have:=(QQ.1 hk).1
      simp at this;omega
     rw [this]at hk
     rw [←p3,this]at hx
     simp at hk hx
     subst hk hx
     exact w2) (fun s hs=>by
    obtain⟨a,l⟩:=s
    obtain⟨rfl,hl,ps,p1,p2,p3,p4⟩:=hs
    refine⟨l,?_,ps,p1,p3,p4⟩
    show QaX n m29 (n.Places.length:Int) l=_
    unfold QaX
    rw [Qa8 (by omega)];rfl) (0,[]) ⟨rfl,QbY _,[],List.Pairwise.nil,(fun p h=>by cases h),rfl,(fun k p w h=>by simp at h)⟩
   obtain⟨out,ho,ps,p1,p3,p4⟩:=s3
   rw [ho,Qi]
   exact T2 (.inr ⟨rfl,h8,vs2,m29,ps,hv2,p1,p3,p4,x6,x23,e6,h6,e23,h23.1,h23.2,fun e he=>⟨sp2 e he,mag e he⟩,sp3⟩)
 rw [Qa4 (show(8:Int)<(n.Places.length:Int) by omega),cond_true,Qi]
 unfold Qgw
 exact T2 (.inl ⟨rfl,rfl⟩)
end Go.Proofs
noncomputable section
namespace Go.Proofs
open Go Go.RowKit Go.Vm
def QfY : Nat→Vec→Vec→Int
 | 0,_,_=>0
 | n+1,w,x=>QfY n w x+w n*x n
theorem QwO (w x y:Vec)(a b:Int):∀n,QfY n w (fun j=>a*x j+b*y j)=a*QfY n w x+b*QfY n w y
 | 0=>by simp [QfY]
 | n+1=>by
  rw [QfY,QfY,QfY,QwO w x y a b n,Int.mul_add,Int.mul_add,Int.mul_add,QkY (w n) a,QkY (w n) b]
  omega
theorem QyP (w:Vec):∀n,QfY n w (fun _=>0)=0
 | 0=>rfl
 | n+1=>by rw [QfY,QyP w n];simp
theorem QAo {w x:Vec}{p q:Nat}(hpq:p≠q)(hz:∀j,j≠p→j≠q→w j*x j=0):∀n,QfY n w x=(if p<n then w p*x p else 0)+(if q<n then w q*x q else 0)
 | 0=>rfl
 | n+1=>by
  rw [QfY,QAo hpq hz n]
  by_cases hp:n=p
  ·subst hp
   rw [if_neg (show ¬n<n by omega),if_pos (show n<n+1 by omega)]
   by_cases hq:q<n
   ·rw [if_pos hq,if_pos (show q<n+1 by omega)];omega
   rw [if_neg hq,if_neg (show ¬q<n+1 by omega)];omega
  by_cases hq:n=q
  ·subst hq
   rw [if_neg (show ¬n<n by omega),if_pos (show n<n+1 by omega)]
   by_cases hp2:p<n
   ·rw [if_pos hp2,if_pos (show p<n+1 by omega)];omega
   rw [if_neg hp2,if_neg (show ¬p<n+1 by omega)];omega
  rw [hz n hp hq]
  have e1:(p<n+1)=(p<n):=by apply propext;omega
  have e2:(q<n+1)=(q<n):=by apply propext;omega
  simp only [e1,e2,Int.add_zero]
theorem QFi {n p:Nat}{vs:List Vec}{m:QaC}{w:List Int}(h:Slv n vs m)(hf:Qog n m p w){x:Vec}(hx:Qae (QlX m) x):QfY n (vec w) x=0:=by
 obtain⟨a,ha,hs⟩:=hx
 have key:∀y,Qao (QlX m) y→QfY n (vec w) y=0:=fun y hy=>by
  induction hy with
  | zero=>exact QyP _ _
  | lin a b x y _ _ h1 h2=>rw [QwO,h1,h2];simp
  | mem v hv=>
   obtain⟨u,hu,rfl⟩:=QG.1 hv
   obtain⟨e,he,rfl⟩:=QG.1 hu
   obtain⟨L,_,_,l3,l4⟩:=hf.piv
   have hpe:p≠e.1.toNat:=fun e2=>hf.fr (QG.2 ⟨e,he,by rw [(h.keys e he).1,←e2]⟩)
   rw [QAo hpe (fun j h1 h2=>by
    by_cases hk:∃e2∈m,e2.1.toNat=j
    ·obtain⟨e2,he2,rfl⟩:=hk
     have:=h.red.zr (pv e) (QG.2 ⟨e,he,rfl⟩) (pv e2) (QG.2 ⟨e2,he2,rfl⟩) h2
     show _*vec e.2 e2.1.toNat=0
     rw [show vec e.2 e2.1.toNat=0 from this,Qhd]
    rw [hf.out j h1 fun e2 he2 e3=>hk ⟨e2,he2,e3⟩,Int.zero_mul]) n,if_pos hf.lt,if_pos (h.keys e he).2.1,l3]
   show(L:Int)*vec e.2 p+vec w e.1.toNat*vec e.2 e.1.toNat=0
   rw [l4 e he,Int.neg_mul,QkX]
   omega
 have h1:=key _ hs
 have h2:=QwO (vec w) x x a 0 n
 have e:(fun j=>a*x j+0*x j)=fun j=>a*x j:=by funext j;simp
 rw [e,h1]at h2
 rw [Int.zero_mul,Int.add_zero]at h2
 exact(QjG.1 h2.symm).resolve_left ha
end Go.Proofs
noncomputable section
namespace Go.Proofs
open Go Go.RowKit Go.Vm
def Big (w:List Int):Prop:=∀x∈w,x.natAbs≤1099511627776
theorem QyQ : ∀(a b:List Int) (x y:Int),a.length=b.length→Qch (a++[x]) (b++[y])=Qch a b+x*y
 | [],[],x,y,_=>by simp [Qch]
 | [],_::_,_,_,h=>by cases h
 | _::_,[],_,_,h=>by cases h
 | a::az,b::bz,x,y,h=>by
  rw [Qoj,Qoj,Qch,Qch,QyQ az bz x y (by simpa using h)]
  omega
theorem QyR {a b:List Int}(h:a.length=b.length):∀n,n≤a.length→Qch (a.take n) (b.take n)=QfY n (vec a) (vec b)
 | 0,_=>by simp [Qch,QfY]
 | n+1,hn=>by
  rw [Qdp,Qdp,Qc6 (row:=a) (by omega),Qc6 (row:=b) (by omega),QfY]
  show Qch (a.take n++[vec a n]) (b.take n++[vec b n])=_
  rw [QyQ _ _ _ _ (by simp [h]),QyR h n (by omega)]
theorem QwP {a b:List Int}(h:a.length=b.length):Qch a b=QfY a.length (vec a) (vec b):=by
 rw [←QyR h a.length (QbY _),Qk3,h,Qk3]
theorem QyS (w:Vec)(k:Nat):∀n,QfY n w (QrD k)=if k<n then w k else 0
 | 0=>rfl
 | n+1=>by
  rw [QfY,QyS w k n]
  unfold QrD
  by_cases e:n=k
  ·subst e;rw [if_neg (show ¬n<n by omega),if_pos rfl,if_pos (show n<n+1 by omega)];simp
  rw [if_neg e]
  have e1:(k<n+1)=(k<n):=by apply propext;omega
  simp only [e1,Qhd,Int.add_zero]
theorem QCK {n:Qk}{vs:List Vec}{m:QaC}{p:Nat}{w:List Int}(h:Slv n.Places.length vs m)(hf:Qog n.Places.length m p w){E:List Int}{F:List (List Int)}(hF1:Qc9 n 2048 F)(hE2:∀k∈E,0≤k∧k<(n.Places.length:Int))
  (s1:∀e∈F,Qae (QlX m) (vec e)) (s2:∀k∈E,Qae (QlX m) (QrD k.toNat)):Qzj E F w:=by
 constructor
 ·intro k hk
  have h1:=QFi h hf (s2 k hk)
  have h2:=hE2 k hk
  rw [QyS,if_pos (by omega)]at h1
  exact h1
 intro e he
 rw [QwP (by rw [hf.len,(hF1.2 e he).1]),hf.len]
 exact QFi h hf (s1 e he)
end Go.Proofs
noncomputable section
namespace Go.Proofs
open Go Go.RowKit Go.Vm
end Go.Proofs
noncomputable section
namespace Go.Proofs
open Go Go.RowKit Go.Vm
theorem QFj {w:List Int}{B:Nat}(hB:B≤1099511627776)(h:∀j,(vec w j).natAbs≤B):Big w:=fun x hx=>by
 obtain⟨j,hj,rfl⟩:=Qk1.1 hx
 have:=h j
 rw [QdM hj]at this
 omega
end Go.Proofs
noncomputable section
namespace Go.Proofs
open Go Go.RowKit Go.Vm
theorem QxO : ∀(a b:List Int) (n:Int),(QnM n (a.zip b)).2=0→(QnM n (a.zip b)).1=n+Qch a b
 | [],b,n,_=>by cases b<;>simp [QnM,Qch]
 | x::a,[],n,_=>by simp [QnM,Qch]
 | x::a,y::b,n,h=>by
  rw [List.zip_cons_cons,QnM]at h ⊢
  simp only at h ⊢
  split at h
  ·rename_i h1
   split at h
   ·rename_i h2
    rw [if_pos h1,if_pos h2,QxO a b _ h,Qch]
    omega
   exact absurd h (by decide)
  exact absurd h (by decide)
theorem QyT : ∀(w a b:List Int),a.length=b.length→Qch w (List.zipWith (·+·) a b)=Qch w a+Qch w b
 | [],a,b,_=>by cases a<;>cases b<;>simp [Qch]
 | x::w,[],[],_=>by simp [Qch]
 | x::w,[],_::_,h=>by cases h
 | x::w,_::_,[],h=>by cases h
 | x::w,y::a,z::b,h=>by
  rw [List.zipWith_cons_cons,Qch,Qch,Qch,QyT w a b (by simpa using h),Int.mul_add]
  omega
theorem QAM {n:Qk}{E:List Int}{F:List (List Int)}{s t u e:List Int}(hh:Qzj E F s)(he:e∈F)(hs:s.length=n.Places.length)(ht:t.length=n.Places.length)(hu:u.length=n.Places.length)(hl:e.length=n.Places.length)
  (hd:∀j,j<n.Places.length→(j:Int) ∉ E→vec u j=vec t j+vec e j):Qch s u=Qch s t:=by
 have h1:Qch s u=Qch s (List.zipWith (·+·) t e):=by
  rw [QwP (by rw [hs,hu]),QwP (by simp [hs,ht,hl])]
  have key:∀k,k≤n.Places.length→QfY k (vec s) (vec u)=QfY k (vec s) (vec (List.zipWith (·+·) t e)):=by
   intro k
   induction k with
   | zero=>intro _;rfl
   | succ k ih=>
    intro hk
    rw [QfY,QfY,ih (by omega)]
    congr 1
    by_cases hE:(k:Int)∈E
    ·have h0:vec s k=0:=by
      have:=hh.1 _ hE
      rw [QcL]at this
      exact this
     rw [h0,Int.zero_mul,Int.zero_mul]
    have hz:vec (List.zipWith (·+·) t e) k=vec t k+vec e k:=by
     rw [QdM (by simp [ht,hl];omega),QdM (row:=t) (by omega),QdM (row:=e) (by omega)];simp
    rw [hd k (by omega) hE,hz]
  exact key _ (by rw [hs];exact QbY _)
 rw [h1,QyT s t e (by rw [ht,hl]),hh.2 e he]
 omega
end Go.Proofs
noncomputable section
namespace Go.Proofs
open Go Go.RowKit Go.Vm
def atB (l:List QX)(j:Nat)(k:Int):Int:=match idx l k with
 | some a=>if a.Place=(j:Int)then 1 else 0
 | none=>0
def QbO (l:List QX)(j:Nat):List Int→Int
 | []=>0
 | k::r=>atB l j k+QbO l j r
theorem QxP (l:List QX)(j:Nat):∀r s,QbO l j (r++s)=QbO l j r+QbO l j s
 | [],s=>by simp [QbO]
 | k::r,s=>by rw [Qoj,QbO,QbO,QxP l j r s];omega
theorem Qr3 {l:List QX}{j:Nat}{r:List Int}{i:Nat}{k:Int}(h:r[i]? = some k):QbO l j (r.take (i+1))=QbO l j (r.take i)+atB l j k:=by
 rw [Qdp,h,QxP]
 show _+(atB l j k+0)=_
 omega
theorem QxQ (n:Qk)(l:List QX)(which env:List Int)(h:Qay n)(hl:QM Qjo l)(hw:which.length≤1000):Qf (QcY n l which env) fun r=>r.2=0→∀j,j<n.Places.length→QaS (r.1.getD j [])=QbO l j which:=by
 unfold QcY
 have hpl:=h.pl
 refine T0 (T5 (by simp only [Qz,Qx];omega)) fun _ _=>?_
 refine T0 (Qf.up which.length (fun st=>st.1) (fun st=>(st.2.length=n.Places.length∧∀b∈st.2,Rt b∧(b.length:Int)≤st.1)∧∀j,j<n.Places.length→QaS (st.2.getD j [])=QbO l j (which.take st.1.toNat)) (Q:=fun q=>(∀x,q=.inl x→x≠0)∧∀m,q=.inr m→∀j,j<n.Places.length→QaS (m.getD j [])=QbO l j which) rfl ⟨⟨by simp,fun b hb=>?_⟩,fun j hj=>?_⟩ (fun i st hi hn hJ=>?_)) (fun q hq=>?_)
 ·have:=QqS hb
  subst this
  exact⟨Rt.nil,by simp⟩
 ·show QaS ((List.replicate _ ([]:Bag)).getD j [])=0
  rw [QkZ,List.getElem?_replicate]
  split<;>rfl
 ·obtain⟨x,m⟩:=st
  replace hi:x=(i:Int):=hi
  obtain⟨⟨hJ1,hJ2⟩,hJ3⟩:(m.length=n.Places.length∧∀b∈m,Rt b∧(b.length:Int)≤x)∧∀j,j<n.Places.length→QaS (m.getD j [])=QbO l j (which.take x.toNat):=hJ
  have err:∀y:Int,y≠0→(∀s',(Sum.inr (Sum.inl y):(Int×List (List (Int×Int)))⊕(Int⊕List (List (Int×Int))))=.inl s'→i<which.length∧s'.1=((i+1:Nat):Int)∧(s'.2.length=n.Places.length∧∀b∈s'.2,Rt b∧(b.length:Int)≤s'.1)∧∀j,j<n.Places.length→QaS (s'.2.getD j [])=QbO l j (which.take s'.1.toNat))∧∀r,(Sum.inr (Sum.inl y):(Int×List (List (Int×Int)))⊕(Int⊕List (List (Int×Int))))=.inr r→(∀x,r=.inl x→x≠0)∧∀m,r=.inr m→∀j,j<n.Places.length→QaS (m.getD j [])=QbO l j which:=
   fun y hy=>⟨fun s' e=>(by cases e),fun r e=>(by cases e;exact⟨fun x e=>(by cases e;exact hy),fun m e=>(by cases e)⟩)⟩
  show Qf (QeQ which l env n x m) _
  unfold QeQ
  subst hi
  refine T1 (fun hc=>?_) (fun hc=>T2 (Qn ⟨fun x e=>(by cases e),fun m' e=>?_⟩))
  ·simp only [Qx]at hc
   have i1:i<which.length:=by omega
   rw [QN,QD i1,Qi]
   refine T1 (fun _=>T2 (err _ (by decide))) fun hc1=>?_
   simp only [QcZ,QY]at hc1
   refine T0 (T4 (by omega) (by omega)) fun e22 h22=>?_
   refine T0 (QzZ e22.Expr env (hl.2 e22 h22).2) fun x23 _=>?_
   refine T1 (fun hc2=>T2 (err _ (by simpa using hc2))) fun _=>?_
   refine T0 (T4 (by omega) (by omega)).self fun e25 h25=>?_
   refine T1 (fun _=>T2 (err _ (by decide))) fun hc3=>?_
   simp only [QcZ,QY]at hc3
   refine T0 (T4 (by omega) (by omega)) fun e29 h29=>?_
   refine T0 (QzX _ _ _ h.k.1) fun x30 h30=>?_
   refine T1 (fun _=>T2 (err _ (by decide))) fun hc4=>?_
   have h30:=h30 (by simpa using hc4)
   refine T0 (T4 (by omega) (by omega)).self fun e32 h32e=>?_
   have h32:=h32e.2
   have h32e:=h32e.1
   rw [QxG,Qa4 h30]
   simp only [cond_true,Qi]
   have hb:=hJ2 e32 h32
   have key:∃s,QbQ e32 [(x30.1,1)]=some s∧(s.2=0→(Rt s.1∧s.1.length≤e32.length+1)∧QaS s.1=QaS e32+1):=by
    rcases QkU e32 [(x30.1,1)] (by simp;omega)with⟨_,e⟩|⟨_,_,_,e⟩|⟨r1,r2,r,e,h1,hcn,h2⟩
    ·exact⟨_,e,fun h=>by cases h⟩
    ·exact⟨_,e,fun h=>by cases h⟩
    exact⟨_,e,fun _=>⟨⟨h1,by simpa using h2⟩,by rw [QwL r1 r2 h1 hcn];rfl⟩⟩
   obtain⟨s,es,hs⟩:=key
   rw [es,Qi]
   refine T0 (T4 (by omega) (by omega)) fun _ _=>?_
   refine T1 (fun hc5=>T2 (err _ (by simpa using hc5))) fun hc5=>?_
   obtain⟨hs,hsum⟩:=hs (by simpa using hc5)
   have hw1:w64 ((i:Int)+1)=((i+1:Nat):Int):=Qw (by omega) (by unfold maxLen;omega:which.length≤maxLen)
   refine T2 (Qy ⟨by omega,hw1,⟨by simpa using hJ1,fun b hb'=>?_⟩,fun j hj=>?_⟩)
   ·show Rt b∧(b.length:Int)≤w64 ((i:Int)+1)
    rw [hw1]
    rcases Qod hb' with rfl | hb'
    ·exact⟨hs.1,by omega⟩
    have:=hJ2 b hb'
    exact⟨this.1,by omega⟩
   show QaS ((m.set e25.Place.toNat s.1).getD j [])=QbO l j (which.take (w64 ((i:Int)+1)).toNat)
   rw [hw1,QcL,Qr3 (QD i1)]
   have hJ3:=hJ3 j hj
   rw [QcL]at hJ3
   rw [←hJ3]
   unfold atB
   rw [h25.1]
   simp only
   by_cases cj:e25.Place.toNat=j
   ·subst cj
    rw [if_pos (by omega),QkZ,QqU (by omega),Qne,hsum]
    rw [Qm3 (by omega)]at h32e
    rw [QkZ,h32e];rfl
   rw [if_neg (by omega),QkZ,QqT cj,QkZ];omega
  cases e
  simp only [QY]at hc
  intro j hj
  have:=hJ3 j hj
  rwa [QcL,QeV (by omega)]at this
 rcases q with q | q
 ·exact T2 fun h0=>absurd h0 (hq.1 q rfl)
 exact T2 fun _=>hq.2 q rfl
theorem QyU (l:List Int)(p k B:Int)(hB:0≤B∧B≤1000)(hk:-1≤k∧k≤1)(hl:∀x∈l,-B≤x∧x≤B):Qf (QeL l p k) fun r=>∀j,j<l.length→vec r j=vec l j+if p=(j:Int)then k else 0:=by
 unfold QeL
 refine T1 (fun hc=>?_) fun hc=>T2 fun j hj=>?_
 ·simp only [Qz,Qx]at hc
  refine T0 (T4 hc.1 hc.2).self fun e he=>?_
  have:=hl e he.2
  refine T0 (T4 hc.1 hc.2) fun _ _=>T2 fun j hj=>?_
  rw [QpH (by omega)]
  by_cases c:j=p.toNat
  ·subst c
   have he:=he.1
   rw [Qm3 hc.1,Qc6 hj]at he
   rw [if_pos rfl,if_pos (by omega),Option.some.inj he,Q6 (by omega)]
  rw [if_neg c,if_neg (by omega)];omega
 simp only [Bool.and_eq_false_iff,QY]at hc
 rw [if_neg (by omega)];omega
theorem QEo (n:Qk)(t:QA)(row l:List Int)(hr:row.length≤16)(hk:∀k∈row,0≤k∧k<(t.Ins.length:Int))(hl:Eff n 0 l):Qf (QE (fun st=>Qb4 row t st.1 st.2) (0,l)) fun r=>Eff n 16 r∧∀j,j<n.Places.length→vec r j=vec l j-QbO t.Ins j row:=by
 refine Qf.up row.length (fun st=>st.1) (fun st=>Eff n st.1 st.2∧∀j,j<n.Places.length→vec st.2 j=vec l j-QbO t.Ins j (row.take st.1.toNat)) rfl ⟨hl,fun j _=>by show vec l j=vec l j-0;omega⟩ (fun i st hi hn hJ=>?_)
 obtain⟨x,l2⟩:=st
 replace hi:x=(i:Int):=hi
 subst hi
 obtain⟨hJ,hJ2⟩:Eff n (i:Int) l2∧∀j,j<n.Places.length→vec l2 j=vec l j-QbO t.Ins j (row.take (i:Int).toNat):=hJ
 show Qf (Qb4 row t i l2) _
 unfold Qb4
 refine T1 (fun hc=>?_) (fun hc=>T2 (Qn ⟨hJ.mono (by omega),fun j hj=>?_⟩))
 ·simp only [Qx]at hc
  have i1:i<row.length:=by omega
  rw [QN,QD i1,Qi]
  have:=hk _ (QaQ i1)
  refine T0 (T4 this.1 this.2).self fun a ha=>?_
  refine T0 (Qtr l2 a.Place (-1) i (by omega) (by omega) hJ.2).self fun l' hl'=>?_
  have hx:=Qee (QyU l2 a.Place (-1) i (by omega) (by omega) hJ.2) hl'.1
  replace hl':=hl'.2
  refine T0 (T5 (by simpa using hl'.1)) fun _ _=>?_
  have hw:w64 ((i:Int)+1)=(i:Int)+1:=Q6 (by omega)
  refine T2 (Qy ⟨by omega,hw,⟨hl'.1.trans hJ.1,?_⟩,fun j hj=>?_⟩)
  ·show ∀x∈l',-(w64 ((i:Int)+1))≤x∧x≤w64 ((i:Int)+1)
   rw [hw];exact hl'.2
  show vec l' j=vec l j-QbO t.Ins j (row.take (w64 ((i:Int)+1)).toNat)
  have h1:=hJ2 j hj
  rw [QcL]at h1
  rw [hw,show((i:Int)+1).toNat=i+1 by omega,Qr3 (QD i1),hx j (by rw [hJ.1];exact hj),h1]
  unfold atB
  rw [ha.1]
  simp only
  split<;>omega
 simp only [QY]at hc
 have h1:=hJ2 j hj
 rwa [QcL,QeV (by omega)]at h1
theorem QEp (n:Qk)(t:QA)(row l:List Int)(hr:row.length≤16)(hk:∀k∈row,0≤k∧k<(t.Outs.length:Int))(hl:Eff n 16 l):Qf (QE (fun st=>Qb5 row t st.1 st.2) (0,l)) fun r=>Eff n 32 r∧∀j,j<n.Places.length→vec r j=vec l j+QbO t.Outs j row:=by
 refine Qf.up row.length (fun st=>st.1) (fun st=>Eff n (16+st.1) st.2∧∀j,j<n.Places.length→vec st.2 j=vec l j+QbO t.Outs j (row.take st.1.toNat)) rfl ⟨hl,fun j _=>by show vec l j=vec l j+0;omega⟩ (fun i st hi hn hJ=>?_)
 obtain⟨x,l2⟩:=st
 replace hi:x=(i:Int):=hi
 subst hi
 obtain⟨hJ,hJ2⟩:Eff n (16+(i:Int)) l2∧∀j,j<n.Places.length→vec l2 j=vec l j+QbO t.Outs j (row.take (i:Int).toNat):=hJ
 show Qf (Qb5 row t i l2) _
 unfold Qb5
 refine T1 (fun hc=>?_) (fun hc=>T2 (Qn ⟨hJ.mono (by omega),fun j hj=>?_⟩))
 ·simp only [Qx]at hc
  have i1:i<row.length:=by omega
  rw [QN,QD i1,Qi]
  have:=hk _ (QaQ i1)
  refine T0 (T4 this.1 this.2).self fun a ha=>?_
  refine T0 (Qtr l2 a.Place 1 (16+i) (by omega) (by omega) hJ.2).self fun l' hl'=>?_
  have hx:=Qee (QyU l2 a.Place 1 (16+i) (by omega) (by omega) hJ.2) hl'.1
  replace hl':=hl'.2
  refine T0 (T5 (by simpa using hl'.1)) fun _ _=>?_
  have hw:w64 ((i:Int)+1)=(i:Int)+1:=Q6 (by omega)
  refine T2 (Qy ⟨by omega,hw,⟨hl'.1.trans hJ.1,?_⟩,fun j hj=>?_⟩)
  ·show ∀x∈l',-(16+w64 ((i:Int)+1))≤x∧x≤16+w64 ((i:Int)+1)
   rw [hw];intro x hx;have:=hl'.2 x hx;omega
  show vec l' j=vec l j+QbO t.Outs j (row.take (w64 ((i:Int)+1)).toNat)
  have h1:=hJ2 j hj
  rw [QcL]at h1
  rw [hw,show((i:Int)+1).toNat=i+1 by omega,Qr3 (QD i1),hx j (by rw [hJ.1];exact hj),h1]
  unfold atB
  rw [ha.1]
  simp only
  split<;>omega
 simp only [QY]at hc
 have h1:=hJ2 j hj
 rwa [QcL,QeV (by omega)]at h1
def Qow (n:Qk)(t:QA)(ins outs e:List Int):Prop:=∀j,j<n.Places.length→vec e j=QbO t.Outs j outs-QbO t.Ins j ins
theorem QEq (n:Qk)(t:QA)(ins:List Int)(outs l:List (List Int))(m:Int)(hp:n.Places.length≤12)(hi:ins.length≤16∧∀k∈ins,0≤k∧k<(t.Ins.length:Int))(ho:RowsIn (t.Outs.length:Int) outs)(hm:m≤100000)(hl:Qc9 n m l):Qf (QE (fun st=>Qb6 outs n ins t st.1 st.2) (0,l)) fun r=>Qc9 n (m+16) r∧(∀e∈l,e∈r)∧∀row∈outs,∃e∈r,Qow n t ins row e:=by
 have ho1:=ho.1
 refine Qf.up outs.length (fun st=>st.1) (fun st=>Qc9 n (m+st.1) st.2∧(∀e∈l,e∈st.2)∧∀row∈outs.take st.1.toNat,∃e∈st.2,Qow n t ins row e) rfl ⟨hl.mono (by show m≤m+0;omega),fun e he=>he,fun row h=>by cases h⟩ (fun i st hi2 hn hJ=>?_)
 obtain⟨x,l3⟩:=st
 replace hi2:x=(i:Int):=hi2
 subst hi2
 obtain⟨hJ,k1,k2⟩:Qc9 n (m+(i:Int)) l3∧(∀e∈l,e∈l3)∧∀row∈outs.take (i:Int).toNat,∃e∈l3,Qow n t ins row e:=hJ
 rw [QcL]at k2
 show Qf (Qb6 outs n ins t i l3) _
 unfold Qb6
 refine T1 (fun hc=>?_) (fun hc=>T2 (Qn ⟨hJ.mono (by omega),k1,fun row hr=>k2 row ?_⟩))
 ·simp only [Qx]at hc
  have i1:i<outs.length:=by omega
  rw [QN,QD i1,Qi]
  have hrow:=ho.2 _ (QaQ i1)
  refine T0 (T5 (by simp;omega)) fun _ _=>?_
  refine T0 (QEo n t ins _ hi.1 hi.2 ⟨by simp,fun x hx=>by have:=(List.mem_replicate.1 hx).2;omega⟩) fun l1 h1=>?_
  show Qf (QdE outs[i] t l3 i l1) _
  unfold QdE
  refine T0 (QEp n t outs[i] l1 hrow.1 hrow.2 h1.1) fun l2 h2=>?_
  show Qf (QdD l3 i l2) _
  unfold QdD
  have:=hJ.1
  refine T0 (T5 (by simp;omega)) fun _ _=>?_
  have hw:w64 ((i:Int)+1)=(i:Int)+1:=Q6 (by omega)
  refine T2 (Qy ⟨by omega,hw,⟨?_,fun e he=>?_⟩,fun e he=>Qok _ (k1 e he),fun row hr=>?_⟩)
  ·show((l3++[l2]).length:Int)≤m+w64 ((i:Int)+1)
   rw [hw,QfJ,Qnb];omega
  ·rcases Qco.1 he with he | he
   ·exact hJ.2 e he
   rw [Qk2.1 he];exact h2.1
  replace hr:row∈outs.take (w64 ((i:Int)+1)).toNat:=hr
  rw [hw,show((i:Int)+1).toNat=i+1 by omega,Qdp,QD i1]at hr
  rcases Qco.1 hr with hr | hr
  ·obtain⟨e,he,hx⟩:=k2 row hr
   exact⟨e,Qok _ he,hx⟩
  simp only [Option.toList_some,Qk2]at hr
  subst hr
  refine⟨l2,QwR _ Q5,fun j hj=>?_⟩
  rw [h2.2 j hj,h1.2 j hj]
  have:vec (List.replicate (n.Places.length:Int).toNat (0:Int)) j=0:=by
   rw [QdM (by simpa using hj)];simp
  rw [this];omega
 simp only [QY]at hc
 rwa [QeV (by omega)]
theorem QEr (n:Qk)(t:QA)(ins l:List (List Int))(m:Int)(hp:n.Places.length≤12)(hi:RowsIn (t.Ins.length:Int) ins)(hm:m≤10000)(hl:Qc9 n m l):Qf (QE (fun st=>Qb7 ins t n st.1 st.2) (0,l)) fun r=>Qc9 n (m+256) r∧(∀e∈l,e∈r)∧∀a∈ins,∀b∈chC t.Split t.Outs.length,∃e∈r,Qow n t a b e:=by
 have hi1:=hi.1
 refine Qf.up ins.length (fun st=>st.1) (fun st=>Qc9 n (m+16*st.1) st.2∧(∀e∈l,e∈st.2)∧∀a∈ins.take st.1.toNat,∀b∈chC t.Split t.Outs.length,∃e∈st.2,Qow n t a b e) rfl ⟨hl.mono (by show m≤m+16*0;omega),fun e he=>he,fun row h=>by cases h⟩ (fun i st hi2 hn hJ=>?_)
 obtain⟨x,l3⟩:=st
 replace hi2:x=(i:Int):=hi2
 subst hi2
 obtain⟨hJ,k1,k2⟩:Qc9 n (m+16*(i:Int)) l3∧(∀e∈l,e∈l3)∧∀a∈ins.take (i:Int).toNat,∀b∈chC t.Split t.Outs.length,∃e∈l3,Qow n t a b e:=hJ
 rw [QcL]at k2
 show Qf (Qb7 ins t n i l3) _
 unfold Qb7
 refine T1 (fun hc=>?_) (fun hc=>T2 (Qn ⟨hJ.mono (by omega),k1,fun row hr=>k2 row ?_⟩))
 ·simp only [Qx]at hc
  have i1:i<ins.length:=by omega
  rw [QN,QD i1,Qi]
  refine T0 (Qvv _ _).self fun outs ho=>?_
  have eo:outs=chC t.Split t.Outs.length:=by unfold chC;rw [ho.1];rfl
  refine T0 (QEq n t ins[i] outs l3 _ hp (hi.2 _ (QaQ i1)) ho.2 (by omega) hJ) fun l1 h1=>?_
  show Qf (QdF i l1) _
  unfold QdF
  have hw:w64 ((i:Int)+1)=(i:Int)+1:=Q6 (by omega)
  refine T2 (Qy ⟨by omega,hw,?_,fun e he=>h1.2.1 e (k1 e he),fun a ha b hb=>?_⟩)
  ·show Qc9 n (m+16*w64 ((i:Int)+1)) l1
   rw [hw];exact h1.1.mono (by omega)
  replace ha:a∈ins.take (w64 ((i:Int)+1)).toNat:=ha
  rw [hw,show((i:Int)+1).toNat=i+1 by omega,Qdp,QD i1]at ha
  rcases Qco.1 ha with ha | ha
  ·obtain⟨e,he,hx⟩:=k2 a ha b hb
   exact⟨e,h1.2.1 e he,hx⟩
  simp only [Option.toList_some,Qk2]at ha
  subst ha
  exact h1.2.2 b (by rw [eo];exact hb)
 simp only [QY]at hc
 rwa [QeV (by omega)]
theorem Qza (n:Qk)(hp:n.Places.length≤12)(ht:n.Tasks.length≤8):Qf (Qbc n) fun F=>∀t∈n.Tasks,∀a∈chC t.Join t.Ins.length,∀b∈chC t.Split t.Outs.length,∃e∈F,Qow n t a b e:=by
 unfold Qbc
 refine T0 (Qf.up n.Tasks.length (fun st=>st.1) (fun st=>Qc9 n (256*st.1) st.2∧∀t∈n.Tasks.take st.1.toNat,∀a∈chC t.Join t.Ins.length,∀b∈chC t.Split t.Outs.length,∃e∈st.2,Qow n t a b e) (Q:=fun F=>∀t∈n.Tasks,∀a∈chC t.Join t.Ins.length,∀b∈chC t.Split t.Outs.length,∃e∈F,Qow n t a b e) rfl ⟨⟨by simp,fun e he=>by cases he⟩,fun t h=>by cases h⟩ (fun i st hi2 hn hJ=>?_)) fun q hq=>T2 hq
 obtain⟨x,l⟩:=st
 replace hi2:x=(i:Int):=hi2
 subst hi2
 obtain⟨hJ,k2⟩:Qc9 n (256*(i:Int)) l∧∀t∈n.Tasks.take (i:Int).toNat,∀a∈chC t.Join t.Ins.length,∀b∈chC t.Split t.Outs.length,∃e∈l,Qow n t a b e:=hJ
 rw [QcL]at k2
 show Qf (QdH n i l) _
 unfold QdH
 refine T1 (fun hc=>?_) (fun hc=>T2 (Qn fun t hr=>k2 t ?_))
 ·simp only [Qx]at hc
  have i1:i<n.Tasks.length:=by omega
  rw [QN,QD i1,Qi]
  refine T0 (Qvv _ _).self fun ins hins=>?_
  have ei:ins=chC n.Tasks[i].Join n.Tasks[i].Ins.length:=by unfold chC;rw [hins.1];rfl
  refine T0 (QEr n n.Tasks[i] ins l _ hp hins.2 (by omega) hJ) fun l1 h1=>?_
  show Qf (QdG i l1) _
  unfold QdG
  have hw:w64 ((i:Int)+1)=(i:Int)+1:=Q6 (by omega)
  refine T2 (Qy ⟨by omega,hw,?_,fun t ha a haa b hb=>?_⟩)
  ·show Qc9 n (256*w64 ((i:Int)+1)) l1
   rw [hw];exact h1.1.mono (by omega)
  replace ha:t∈n.Tasks.take (w64 ((i:Int)+1)).toNat:=ha
  rw [hw,show((i:Int)+1).toNat=i+1 by omega,Qdp,QD i1]at ha
  rcases Qco.1 ha with ha | ha
  ·obtain⟨e,he,hx⟩:=k2 t ha a haa b hb
   exact⟨e,h1.2.1 e he,hx⟩
  simp only [Option.toList_some,Qk2]at ha
  subst ha
  exact h1.2.2 a (by rw [ei];exact haa) b hb
 simp only [QY]at hc
 rwa [QeV (by omega)]
end Go.Proofs
noncomputable section
namespace Go.Proofs
open Go Go.RowKit Go.Vm
theorem QCL {l:List Int}{x:Int}:x∈Qes l↔x∈l:=by
 unfold Qes Lib.compact Lib.compactUpTo
 rw [QG]
 constructor
 ·rintro ⟨i,hi,rfl⟩
  have hl:=QiD.1 (Qhe.1 hi).1
  have:l.toArray[i]! = l[i]:=by simp [hl]
  rw [this];exact QaQ hl
 intro hx
 obtain⟨i,hi,rfl⟩:=Qk1.1 hx
 have key:∀i (hi:i<l.length),∃a,a∈(List.range l.length).filter (Lib.keeps l.toArray)∧l.toArray[a]! = l[i]:=by
  intro i
  induction i with
  | zero=>
   intro hi
   exact⟨0,Qhe.2 ⟨QiD.2 hi,by simp [Lib.keeps]⟩,by simp [hi]⟩
  | succ i ih=>
   intro hi
   by_cases c:l[i+1]=l[i]
   ·rw [c];exact ih (by omega)
   refine⟨i+1,Qhe.2 ⟨QiD.2 hi,?_⟩,by simp [hi]⟩
   have h1:l.toArray[i+1]! = l[i+1]:=by simp [hi]
   have h2:l.toArray[i]! = l[i]:=by simp [show i<l.length by omega]
   unfold Lib.keeps
   rw [Nat.add_sub_cancel,h1,h2]
   simpa using c
 exact key i hi
def gdI (n:Qk)(k:Int):Bool:=!QgO n k
theorem QFk (n:Qk)(l:List Int)(hl:l.length≤1000):Qf (QaV l n) fun r=>r=l.filter (gdI n):=by
 unfold QaV
 rw [QyM l n (by unfold maxLen;omega),Qi]
 cases hs:Qdt (fun _ x=>QgO n x) 0 l with
 | none=>
  refine T1 (fun _=>T2 (List.filter_eq_self.2 fun k hk=>?_).symm) fun hc=>by cases hc
  obtain⟨i,hi⟩:=Qpm hk
  have:QgO n k=false:=QpE hs i k hi
  unfold gdI
  rw [this];rfl
 | some i0=>
  obtain⟨i1,x0,e0,hx0,hbad0⟩:=QpD hs
  have hi0:i0<l.length:=by have:=(QQ.1 hx0).1;omega
  have hbad:gdI n l[i0]=false:=by
   have:i1=i0:=by omega
   subst this
   rw [QD hi0]at hx0
   cases hx0
   unfold gdI
   rw [show QgO n l[i1]=true from hbad0];rfl
  have hx1:∀k∈l.take i0,gdI n k=true:=fun k hk=>by
   obtain⟨i,hi⟩:=Qpm hk
   have hlt:=(QQ.1 hi).1
   rw [Qfh]at hlt
   rw [Qcn,if_pos (by omega)]at hi
   have:QgO n k=false:=Qv8 hs i k (by omega) hi
   unfold gdI
   rw [this];rfl
  refine T1 (fun hc=>by simp at hc) fun _=>?_
  show Qf ((QE _ ((i0:Int),w64 ((i0:Int)+1),l)).bind _) _
  have hw:w64 ((i0:Int)+1)=(i0:Int)+1:=Q6 (by omega)
  refine T0 (Qf.up (l.length-(i0+1)) (fun st=>st.2.1-((i0:Int)+1)) (fun st=>0≤st.1∧st.1<st.2.1∧st.2.2.length=l.length∧st.2.2.take st.1.toNat=(l.take st.2.1.toNat).filter (gdI n)∧st.2.2.drop st.2.1.toNat=l.drop st.2.1.toNat) (Q:=fun q:Int×List Int=>0≤q.1∧q.1≤(l.length:Int)∧q.2.length=l.length∧q.2.take q.1.toNat=l.filter (gdI n)) (by show w64 ((i0:Int)+1)-((i0:Int)+1)=0;omega) ⟨by show(0:Int)≤i0;omega,by show(i0:Int)<w64 ((i0:Int)+1);omega,rfl,?_,rfl⟩ (fun i st hi hn hJ=>?_)) (fun q hq=>?_)
  ·show l.take (i0:Int).toNat=(l.take (w64 ((i0:Int)+1)).toNat).filter (gdI n)
   rw [hw,QcL,show((i0:Int)+1).toNat=i0+1 by omega,Qdp,QD hi0,List.filter_append,List.filter_eq_self.2 hx1]
   show l.take i0=l.take i0++List.filter (gdI n) [l[i0]]
   rw [Qm9,hbad]
   exact(QsJ _).symm
  ·obtain⟨a,j,l2⟩:=st
   replace hi:j-((i0:Int)+1)=i:=hi
   obtain⟨j1,j2,j3,j4,j5⟩:0≤a∧a<j∧l2.length=l.length∧l2.take a.toNat=(l.take j.toNat).filter (gdI n)∧l2.drop j.toNat=l.drop j.toNat:=hJ
   show Qf (Qau n a j l2) _
   unfold Qau
   refine T1 (fun hc=>?_) (fun hc=>T2 (Qn ⟨j1,?_,j3,?_⟩))
   ·simp only [Qx]at hc
    have hj:j.toNat<l2.length:=by omega
    have hj':j.toNat<l.length:=by omega
    have ej:l2[j.toNat]=l[j.toNat]:=by
     have:=congrArg List.head? j5
     rw [Qvd hj,Qvd hj']at this
     exact Option.some.inj this
    have ej5:l2.drop (j.toNat+1)=l.drop (j.toNat+1):=by
     have:=congrArg List.tail j5
     simpa using this
    have hw2:w64 (j+1)=j+1:=Q6 (by omega)
    have hw3:w64 (a+1)=a+1:=Q6 (by omega)
    have tk:l.take (j+1).toNat=l.take j.toNat++[l[j.toNat]]:=by
     rw [show(j+1).toNat=j.toNat+1 by omega,Qdp,QD hj'];rfl
    rw [Qsw (by omega) (by omega),Qi,show Qeb l2[j.toNat] n=some (QgO n l2[j.toNat])from rfl,Qi]
    refine T1 (fun hc2=>?_) fun hc2=>?_
    ·have hc2:gdI n l[j.toNat]=true:=by rw [←ej];exact hc2
     refine T0 (T4 (by omega) (by omega)) fun _ _=>?_
     refine T2 (Qy ⟨by omega,by show w64 (j+1)-((i0:Int)+1)=_;omega,by show 0≤w64 (a+1);omega,by show w64 (a+1)<w64 (j+1);omega,by simpa using j3,?_,?_⟩)
     ·show(l2.set a.toNat l2[j.toNat]).take (w64 (a+1)).toNat=(l.take (w64 (j+1)).toNat).filter (gdI n)
      rw [hw2,hw3,tk,List.filter_append,←j4,show(a+1).toNat=a.toNat+1 by omega,Qdp,QqU (by omega),List.take_set_of_le (QbY _),ej]
      simp [hc2]
     show(l2.set a.toNat l2[j.toNat]).drop (w64 (j+1)).toNat=l.drop (w64 (j+1)).toNat
     rw [hw2,show(j+1).toNat=j.toNat+1 by omega,List.drop_set_of_lt (by omega),ej5]
    have hc2:gdI n l[j.toNat]=false:=by rw [←ej];exact hc2
    refine T2 (Qy ⟨by omega,by show w64 (j+1)-((i0:Int)+1)=_;omega,j1,by show a<w64 (j+1);omega,j3,?_,?_⟩)
    ·show l2.take a.toNat=(l.take (w64 (j+1)).toNat).filter (gdI n)
     rw [hw2,tk,List.filter_append,←j4]
     simp [hc2]
    show l2.drop (w64 (j+1)).toNat=l.drop (w64 (j+1)).toNat
    rw [hw2,show(j+1).toNat=j.toNat+1 by omega,ej5]
   ·simp only [QY]at hc
    show a≤_
    omega
   simp only [QY]at hc
   show l2.take a.toNat=_
   rw [j4,QeV (by omega)]
  obtain⟨q1,q2⟩:=q
  obtain⟨h1,h2,h3,h4⟩:0≤q1∧q1≤l.length∧q2.length=l.length∧q2.take q1.toNat=l.filter (gdI n):=hq
  show Qf (Qav q1 q2) _
  unfold Qav
  refine T0 (T5 (by simp only [Qz,Qx];omega)) fun _ _=>?_
  refine T0 (T5 (by simp only [Qz,Qx,QfJ,Qfh,Qpn];omega)) fun _ _=>?_
  refine T2 ?_
  rw [QsK (by simp;omega),List.take_take,Nat.min_self,h4]
def QxR (n:Qk):List Int:=n.Tasks.flatMap fun t=>t.Cancel
theorem QBR (n:Qk)(h:Qay n)(ht:n.Tasks.length≤8):QaD n=some (Qes (QeW ((QxR n).filter (gdI n)))):=by
 have main:Qf (QaD n) fun r=>r=Qes (QeW ((QxR n).filter (gdI n))):=by
  unfold QaD
  refine T0 (Qf.up n.Tasks.length (fun st=>st.1) (fun st=>(st.2.length:Int)≤16*st.1∧st.2=(n.Tasks.take st.1.toNat).flatMap fun t=>t.Cancel) (Q:=fun l:List Int=>l.length≤128∧l=QxR n) rfl ⟨by simp,rfl⟩ (fun i st hi2 hn hJ=>?_)) fun l hl=>?_
  ·obtain⟨x,l⟩:=st
   replace hi2:x=(i:Int):=hi2
   subst hi2
   obtain⟨hJ,hJ2⟩:(l.length:Int)≤16*(i:Int)∧l=(n.Tasks.take (i:Int).toNat).flatMap fun t=>t.Cancel:=hJ
   rw [QcL]at hJ2
   show Qf (QdI n i l) _
   unfold QdI
   refine T1 (fun hc=>?_) (fun hc=>T2 (Qn ⟨by omega,?_⟩))
   ·simp only [Qx]at hc
    have i1:i<n.Tasks.length:=by omega
    rw [QN,QD i1,Qi]
    have:=(h.tk _ (QaQ i1)).2.2.2
    refine T0 (T5 (by simp;omega)) fun _ _=>?_
    have hw:w64 ((i:Int)+1)=(i:Int)+1:=Q6 (by omega)
    refine T2 (Qy ⟨by omega,hw,?_,?_⟩)
    ·show((l++n.Tasks[i].Cancel).length:Int)≤16*w64 ((i:Int)+1)
     rw [hw,QfJ];omega
    show l++n.Tasks[i].Cancel=(n.Tasks.take (w64 ((i:Int)+1)).toNat).flatMap fun t=>t.Cancel
    rw [hw,show((i:Int)+1).toNat=i+1 by omega,Qdp,QD i1,List.flatMap_append,←hJ2]
    simp
   simp only [QY]at hc
   show l=QxR n
   unfold QxR
   rw [hJ2,QeV (by omega)]
  show Qf (QdJ n l) _
  unfold QdJ QaW Qd1
  obtain⟨hl,hl2⟩:=hl
  have hf:=Qvg (gdI n) l
  refine T0 (QFk n l (by omega)) fun l1 h1=>?_
  subst h1 hl2
  rw [QnH (by omega),Qi,Qi]
  refine T0 (T5 (by simp [Qhi])) fun _ _=>?_
  rw [QnH (by rw [Qhi];omega),Qi,Qi]
  exact T2 rfl
 obtain⟨r,h1,h2⟩:=main
 rw [h1,h2]
theorem QAN {n:Qk}(h:Qay n)(ht:n.Tasks.length≤8){E:List Int}(hE:QaD n=some E){t:QA}(hm:t∈n.Tasks){k:Int}(hk:k∈t.Cancel)(h0:0≤k)(h1:k<(n.Places.length:Int)):k∈E:=by
 rw [QBR n h ht]at hE
 cases hE
 rw [QCL,(Qpv _).mem_iff,Qhe]
 refine⟨List.mem_flatMap.2 ⟨t,hm,hk⟩,?_⟩
 unfold gdI QgO
 simp only [Qfg,QcZ,QY]
 omega
end Go.Proofs
noncomputable section
namespace Go.Proofs
open Go Go.RowKit Go.Vm
theorem QCM (n:Qk)(o:Qq)(h:Qay n)(ho:QbN n o):Qf (QgK n o) fun r=>r.2=0→∃e,idx n.Tasks o.Task=some e∧∀j,j<n.Places.length→QaS (r.1.getD j [])=QbO e.Ins j o.Ins:=by
 unfold QgK
 refine T0 (QxH n o.Task o.Vars h) fun x hx=>?_
 refine T1 (fun hc=>T2 fun h=>absurd h (by simpa using hc)) fun hc=>?_
 have:=hx (by simpa using hc)
 refine T0 (T4 this.1 this.2).self fun e he=>?_
 have hl:=ho.2.1
 exact T0 (QxQ n _ _ _ h (h.k.2.2.1.2 _ he.2).2.2.2.2.2.1 (by omega)) fun y hy=>T2 fun h0=>⟨e,he.1,hy h0⟩
theorem QCN (n:Qk)(o:Qq)(h:Qay n)(ho:QbN n o):Qf (QgL n o) fun r=>r.2=0→∃e,idx n.Tasks o.Task=some e∧∀j,j<n.Places.length→QaS (r.1.getD j [])=QbO e.Outs j o.Outs:=by
 unfold QgL
 refine T0 (QxH n o.Task o.Vars h) fun x hx=>?_
 refine T1 (fun hc=>T2 fun h=>absurd h (by simpa using hc)) fun hc=>?_
 have:=hx (by simpa using hc)
 refine T0 (T4 this.1 this.2).self fun e he=>?_
 have hl:=ho.2.2
 exact T0 (QxQ n _ _ _ h (h.k.2.2.1.2 _ he.2).2.2.2.2.2.2.1 (by omega)) fun y hy=>T2 fun h0=>⟨e,he.1,hy h0⟩
theorem QBS (n:Qk)(m:List Bag)(o:Qq)(c:Nat)(h:Qay n)(hm:MOk n c m)(hc:c≤900000)(ho:QbN n o):Qf (QhJ n m o) fun r=>r.2=0→∃e g y,idx n.Tasks o.Task=some e∧e∈n.Tasks∧QgL n o=some (g,0)∧MOk n c y∧(∀j:Nat,(j:Int) ∉ e.Cancel→y[j]? = m[j]?)∧QdA y g=some r:=by
 have hpl:=h.pl
 have hm1:=hm.1
 unfold QhJ
 refine T0 (Qym n o h ho).self fun y hy=>?_
 refine T1 (fun hc=>T2 fun h=>absurd h (by simpa using hc)) fun hc2=>?_
 have hc2:y.2=0:=by simpa using hc2
 obtain⟨⟨hy1,_⟩,h1,h2⟩:=hy.2 hc2
 rw [QqD m (by omega) (fun b hb=>by have:=(hm.2 b hb).2;omega),Qi]
 refine T0 (T4 h1 h2).self fun e he=>?_
 have hcl:=(h.tk e he.2).2.2.2
 refine T0 (Qf.up e.Cancel.length (fun st=>st.1) (fun st=>MOk n c st.2∧∀j:Nat,(j:Int) ∉ e.Cancel→st.2[j]? = m[j]?) (Q:=fun q=>MOk n c q∧∀j:Nat,(j:Int) ∉ e.Cancel→q[j]? = m[j]?) rfl ⟨hm,fun j _=>rfl⟩ (fun i st hi hn hJ=>?_)) (fun q hq=>?_)
 ·obtain⟨x,l⟩:=st
  replace hi:x=(i:Int):=hi
  replace hJ:MOk n c l∧∀j:Nat,(j:Int) ∉ e.Cancel→l[j]? = m[j]? := hJ
  show Qf (Qga e x l) _
  unfold Qga
  refine T1 (fun hc=>?_) (fun _=>T2 (Qn hJ))
  simp only [Qx]at hc
  refine T0 (T4 (by omega) (by omega)) fun k hk=>?_
  have next:∀l,(MOk n c l∧∀j:Nat,(j:Int) ∉ e.Cancel→l[j]? = m[j]?)→Qf (QeS x l) fun o=>(∀s',o=.inl s'→i<e.Cancel.length∧s'.1=((i+1:Nat):Int)∧MOk n c s'.2∧∀j:Nat,(j:Int) ∉ e.Cancel→s'.2[j]? = m[j]?)∧∀r:List (List (Int×Int)),o=.inr r→MOk n c r∧∀j:Nat,(j:Int) ∉ e.Cancel→r[j]? = m[j]? := fun l hl=>by
   unfold QeS
   exact T2 (Qy (ix:=fun st:Int×List (List (Int×Int))=>st.1) (J:=fun st:Int×List (List (Int×Int))=>MOk n c st.2∧∀j:Nat,(j:Int) ∉ e.Cancel→st.2[j]? = m[j]?) ⟨by omega,by subst hi;exact Qw (by omega) (by unfold maxLen;omega:e.Cancel.length≤maxLen),hl⟩)
  refine T1 (fun hc3=>?_) fun _=>next l hJ
  simp only [Qz,Qx]at hc3
  refine T0 (T4 hc3.1 hc3.2) fun _ _=>?_
  refine next _ ⟨⟨by simpa using hJ.1.1,fun b hb=>?_⟩,fun j hj=>?_⟩
  ·rcases Qod hb with rfl | hb
   ·exact⟨Rt.nil,by simp⟩
   exact hJ.1.2 b hb
  rw [QqT fun e2=>hj (by rw [←e2,Int.toNat_of_nonneg hc3.1];exact hk)]
  exact hJ.2 j hj
 show Qf (Qgb y q) _
 unfold Qgb
 refine T0 (Qu7 n q y.1 c 20 h hq.1 hy1 (by omega)).self fun z hz=>T2 fun hz0=>?_
 obtain⟨y1,y2⟩:=y
 subst hc2
 exact⟨e,y1,q,he.1,he.2,hy.1,hq.1,hq.2,hz.1⟩
theorem QFl {n:Qk}{m x:List Bag}{o:Qq}{c:Nat}(h:Qay n)(hm:MOk n c m)(hc:c≤100000)(ho:QbN n o)(hp:n.Places.length≤12)(ht:n.Tasks.length≤8){F:List (List Int)}{E:List Int}(hF:Qbc n=some F)(hE:QaD n=some E)
  (hD:Qek n m o=some (x,0)):∃e∈F,∀j,j<n.Places.length→(j:Int) ∉ E→QaS (x.getD j [])=QaS (m.getD j [])+vec e j:=by
 have hpl:=h.pl
 have hm1:=hm.1
 obtain⟨t,hT,hG⟩:=QDz hD
 obtain⟨hCk,need,hN,hL⟩:=QBH hT
 obtain⟨e1,he1,hs1⟩:=Qee (QCM n o h ho) hN rfl
 have hnd:=(Qee (QAU n o h ho) hN rfl).1
 have htk:=Qee (QCx n m o c h hm (by omega) ho) hT rfl
 obtain⟨_,eL⟩:=(Qee (QAH n m need c 20 h hm hnd (by omega)) hL).1 rfl
 obtain⟨e,g,y,he,hem,hg,hy,hyc,hS⟩:=Qee (QBS n t o (c+20) h htk (by omega) ho) hG rfl
 obtain⟨e2,he2,hs2⟩:=Qee (QCN n o h ho) hg rfl
 rw [he]at he1 he2
 have e91:=Option.some.inj he1
 have e92:=Option.some.inj he2
 subst e91 e92
 have hgo:=(Qee (Qym n o h ho) hg rfl).1.1
 obtain⟨_,eS⟩:=(Qee (Qu7 n y g (c+20) 20 h hy hgo (by omega)) hS).1 rfl
 obtain⟨_,e9,he',_,hi,hu,_⟩:=QyK.1 ((QCC h (hm.len h (by omega)) ho).1 hCk)
 rw [he]at he'
 have e99:e=e9:=Option.some.inj he'
 subst e99
 obtain⟨f,hf,hx⟩:=Qee (Qza n hp ht) hF e hem _ hi _ hu
 refine⟨f,hf,fun j hj hjE=>?_⟩
 obtain⟨a,ha,ha1,ha2⟩:=QBG hm hj
 obtain⟨u,hu1,hu2,hu3⟩:=QBG hnd hj
 obtain⟨p,hp1,hp2⟩:=eL j a u ha hu1
 have q1:=QEc (by omega) hp2
 have hjc:(j:Int) ∉ e.Cancel:=fun hjc=>hjE (QAN h ht hE hem hjc (by omega) (by omega))
 have hyj:y[j]? = some p:=by rw [hyc j hjc];exact hp1
 obtain⟨v,hv,hv1,hv2⟩:=QBG hgo hj
 obtain⟨z,hz1,hz2⟩:=eS j p v hyj hv
 have q2:=QEX (by have:=(QFL hy hyj).2.2;omega) hz2
 have s1:=hs1 j hj
 have s2:=hs2 j hj
 have hz1:x[j]? = some z:=hz1
 simp only [QkZ,hu1,hv,Qne]at s1 s2
 simp only [QkZ,ha,hz1,Qne]
 have a1:=QwL q1.2.2.1 hu2 ha1 fun k=>by have:=q1.2.2.2.2 k;omega
 have a2:=QwL q2.1 q2.2.1 q2.2.2.1 q2.2.2.2
 rw [hx j hj]
 omega
end Go.Proofs
noncomputable section
namespace Go.Proofs
open Go Go.RowKit Go.Vm
theorem QA0 : ∀(b:Bag),(∀p∈b,1≤p.2∧p.2≤1048576)→0≤QaS b∧QaS b≤1048576*b.length
 | [],_=>by simp [QaS]
 | p::b,h=>by
  have h1:=h p Q5
  have h2:=QA0 b fun q hq=>h q (Qab _ hq)
  rw [QaS,QeU]
  omega
theorem QxS {n:Qk}{c:Nat}{m:List Bag}(hm:MOk n c m)(hc:c≤100000):∀b∈m,Qjt b=some (QaS b)∧0≤QaS b∧QaS b≤104857600000:=fun b hb=>by
 obtain⟨h1,h2⟩:=hm.2 b hb
 have h3:=QA0 b fun p hp=>(h1.2 p hp).2
 rw [Qz6 b h1 (by unfold maxLen;omega),Q6 (by omega)]
 exact⟨rfl,by omega,by omega⟩
theorem QBT {n:Qk}{c:Nat}{m:List Bag}(h:Qay n)(hm:MOk n c m)(hc:c≤100000):Qcj m=some (m.map QaS):=by
 have hpl:=h.pl
 have hm1:=hm.1
 have main:Qf (Qcj m) fun r=>r=m.map QaS:=by
  unfold Qcj
  refine T0 (T5 (by simp;omega)) fun _ _=>?_
  refine T0 (Qf.up m.length (fun st=>st.1) (fun st=>st.2.length=m.length∧∀j:Nat,(j:Int)<st.1→st.2[j]? = (m.map QaS)[j]?) (Q:=fun r=>r=m.map QaS) rfl ⟨by simp,fun j hj=>by have hj:(j:Int)<0:=hj;omega⟩ (fun i st hi hn hJ=>?_)) fun q hq=>T2 hq
  obtain⟨x,l⟩:=st
  replace hi:x=(i:Int):=hi
  subst hi
  obtain⟨j1,j2⟩:l.length=m.length∧∀j:Nat,(j:Int)<(i:Int)→l[j]? = (m.map QaS)[j]? := hJ
  show Qf (QcO m i l) _
  unfold QcO
  refine T1 (fun hc=>?_) (fun hc=>T2 (Qn ?_))
  ·simp only [Qx]at hc
   have i1:i<m.length:=by omega
   rw [QN,QD i1,Qi,(QxS hm (by omega) _ (QaQ i1)).1,Qi]
   refine T0 (T4 (by omega) (by omega)) fun _ _=>?_
   have hw:w64 ((i:Int)+1)=(i:Int)+1:=Q6 (by omega)
   refine T2 (Qy ⟨i1,hw,by simpa using j1,fun j hj=>?_⟩)
   replace hj:(j:Int)<w64 ((i:Int)+1):=hj
   show(l.set (i:Int).toNat _)[j]? = _
   rw [QcL]
   by_cases e:i=j
   ·subst e
    rw [QqU (by omega),Qan,QD i1];rfl
   rw [QqT e]
   exact j2 j (by omega)
  simp only [QY]at hc
  refine List.ext_getElem? fun j=>?_
  by_cases hj:j<m.length
  ·exact j2 j (by omega)
  rw [List.getElem?_eq_none (by omega),List.getElem?_eq_none (by simp;omega)]
 obtain⟨r,h1,h2⟩:=main
 rw [h1,h2]
theorem QBU {n:Qk}{c:Nat}{m:List Bag}(h:Qay n)(hm:MOk n c m)(hc:c≤100000){w:List Int}(hw:Big w)(hl:w.length=n.Places.length):∃v,Qjg w m=some v∧(v.2=0→v.1=Qch w (m.map QaS)):=by
 have hpl:=h.pl
 have hm1:=hm.1
 unfold Qjg
 rw [show((w.length:Int) != (m.length:Int))=false by simp;omega,cond_false,QBT h hm hc,Qi,QE5 (fun x hx=>by have:=hw x hx;unfold InI;omega) (fun x hx=>by
  obtain⟨b,hb,rfl⟩:=QG.1 hx
  have:=(QxS hm hc b hb).2
  unfold InI;omega) (by unfold maxLen;omega),Qi]
 refine⟨_,rfl,fun h0=>?_⟩
 have:=QxO w (m.map QaS) 0 h0
 show(QnM 0 (w.zip (m.map QaS))).1=_
 omega
theorem QA1 {m:List Bag}(j:Nat):vec (m.map QaS) j=QaS (m.getD j []):=by
 unfold vec
 rw [QkZ,QkZ,Qan]
 cases m[j]? <;> rfl
theorem QCO {n:Qk}{m x:List Bag}{o:Qq}{c:Nat}(h:Qay n)(hm:MOk n c m)(hc:c≤100000)(ho:QbN n o)(hp:n.Places.length≤12)(ht:n.Tasks.length≤8){F:List (List Int)}{E:List Int}(hF:Qbc n=some F)(hF1:Qc9 n 2048 F)(hE:QaD n=some E)
  {s:List Int} (hs:s.length=n.Places.length) (hh:Qzj E F s) (hD:Qek n m o=some (x,0)):Qch s (x.map QaS)=Qch s (m.map QaS):=by
 obtain⟨e,he,hd⟩:=QFl h hm hc ho hp ht hF hE hD
 have hx:=Qee (QBE n m o c h hm (by omega) ho) hD rfl
 exact QAM hh he hs (by rw [Qk0];exact hm.1) (by rw [Qk0];exact hx.1) (hF1.2 e he).1 fun j hj hjE=>by rw [QA1,QA1];exact hd j hj hjE
theorem Qva {n:Qk}(h:Qay n)(hp:n.Places.length≤12)(ht:n.Tasks.length≤8){F:List (List Int)}{E:List Int}(hF:Qbc n=some F)(hF1:Qc9 n 2048 F)(hE:QaD n=some E){s:List Int}(hs:s.length=n.Places.length)(hh:Qzj E F s):
  ∀(l:List Qq) (c:Nat) (m x:List Bag),MOk n c m→(∀o∈l,QbN n o)→c+40*l.length≤100000→Qe5 n m l=some x→Qch s (x.map QaS)=Qch s (m.map QaS)
 | [],c,m,x,hm,_,_,e=>by cases e;rfl
 | o::l,c,m,x,hm,ho,hc,e=>by
  obtain⟨y,h1,h2⟩:=Qtq e
  simp only [QeU]at hc
  have hy:=Qee (QBE n m o c h hm (by omega) (ho o Q5)) h1 rfl
  rw [Qva h hp ht hF hF1 hE hs hh l (c+40) y x hy (fun o' ho'=>ho o' (Qab _ ho')) (by omega) h2]
  exact QCO h hm (by omega) (ho o Q5) hp ht hF hF1 hE hs hh h1
end Go.Proofs
noncomputable section
namespace Go.Proofs
open Go Go.RowKit Go.Vm
theorem QDJ (w:List Int)(h0:0<w.length)(hl:w.length≤maxLen):Qf (QfQ w) fun r=>0≤r→∀x∈w,0≤x:=by
 unfold QfQ
 rw [Qa8 (by omega),cond_false,show idx w 0=some w[0]from by rw [show(0:Int)=((0:Nat):Int)from rfl,QN,QD h0],Qi]
 refine T0 (Qf.up (w.length-1) (fun st=>st.2-1) (fun st=>0≤st.1→∀x∈w.take st.2.toNat,0≤x) (Q:=fun r=>0≤r→∀x∈w,0≤x) rfl (fun h x hx=>?_) (fun i st hi hn hJ=>?_)) fun q hq=>T2 hq
 ·replace hx:x∈w.take 1:=hx
  rw [Qdp,QD h0]at hx
  simp at hx
  subst hx;exact h
 obtain⟨a,x⟩:=st
 replace hi:x-1=(i:Int):=hi
 have hx1:x=((i+1:Nat):Int):=by omega
 subst hx1
 replace hJ:0≤a→∀x∈w.take ((i+1:Nat):Int).toNat,0≤x:=hJ
 rw [QcL]at hJ
 show Qf (Qev w a ((i+1:Nat):Int)) _
 unfold Qev
 refine T1 (fun hc=>?_) (fun hc=>T2 (Qn fun h x hx=>?_))
 ·simp only [Qx]at hc
  have i1:i+1<w.length:=by omega
  have hw:w64 (((i+1:Nat):Int)+1)=((i+2:Nat):Int):=by rw [Qw i1 hl]
  rw [QN,QD i1,Qi]
  refine T2 (Qy ⟨by omega,by show w64 (((i+1:Nat):Int)+1)-1=_;rw [hw];omega,fun h x hx=>?_⟩)
  replace hx:x∈w.take (w64 (((i+1:Nat):Int)+1)).toNat:=hx
  replace h:0≤min2 a w[i+1]:=h
  unfold min2 at h
  rw [hw,QcL,Qdp,QD i1]at hx
  rcases Qco.1 hx with hx | hx
  ·exact hJ (by split at h<;>omega) x hx
  simp at hx;subst hx
  split at h<;>omega
 simp only [QY]at hc
 exact hJ h x (by rwa [QeV (by omega)])
theorem QCP (w:List Int)(p:Nat)(hl:w.length≤maxLen):Qf (QhX w (p:Int)) fun r=>r=true→p<w.length∧0<vec w p∧∀x∈w,0≤x:=by
 unfold QhX
 refine T0 (P:=fun r=>r=true→p<w.length∧0<vec w p∧∀x∈w,0≤x) ?_ fun x hx=>T2 hx
 unfold Qno
 refine T1 (fun hc=>?_) fun _=>T2 fun h=>by cases h
 simp only [Qx]at hc
 have h0:p<w.length:=by omega
 rw [QN,Qc6 h0,Qi]
 refine T1 (fun hc2=>?_) fun _=>T2 fun h=>by cases h
 simp only [Qx]at hc2
 exact T0 (QDJ w (by omega) hl) fun y hy=>T2 fun h=>⟨h0,hc2,hy (QV h)⟩
theorem QBV (w:List Int)(p:Nat)(hl:w.length≤maxLen):Qf (Qcc [w] (p:Int)) fun r=>r=true→p<w.length∧0<vec w p∧∀x∈w,0≤x:=by
 obtain⟨b,hb,hb2⟩:=QCP w p hl
 unfold Qcc Qeq
 rw [QrB (l:=[w]) (fun _=>b) (fun i x hi hx=>by
  show QaI [w] (p:Int) i=_
  unfold QaI
  have hi0:i=0:=by simp at hi;exact hi
  subst hi0
  have e:w=x:=by simpa using hx
  subst e
  rw [Qa4 (by simp),cond_true,QN,hx,Qi,hb,Qi,Qw hi (by simp [maxLen])]
  cases b<;>rfl) (by
  show QaI [w] (p:Int) ([w].length:Int)=_
  unfold QaI
  rw [Qa8 (by omega),cond_false])]
 cases b with
 | true=>exact T2 fun _=>hb2 rfl
 | false=>exact T2 fun h=>absurd h (by decide)
theorem QAp (w:List Int)(P:Nat)(hl:w.length≤maxLen)(hP:P≤70):Qf (Qhn [w] (P:Int)) fun r=>r.length≤70∧∀c∈r,∃p:Nat,c=(p:Int)∧p<w.length∧p<P∧0<vec w p∧∀x∈w,0≤x:=by
 have e1:max2 0 (min2 (P:Int) 1000)=(P:Int):=by unfold max2 min2;split<;>split<;>omega
 unfold Qhn
 refine T0 (Qf.up P (fun st=>st.1) (fun st=>(st.2.length:Int)≤st.1∧∀c∈st.2,∃p:Nat,c=(p:Int)∧p<w.length∧p<P∧0<vec w p∧∀x∈w,0≤x) (Q:=fun r=>r.length≤70∧∀c∈r,∃p:Nat,c=(p:Int)∧p<w.length∧p<P∧0<vec w p∧∀x∈w,0≤x) rfl ⟨by simp,fun c h=>by cases h⟩ (fun i st hi hn hJ=>?_)) fun q hq=>T2 hq
 obtain⟨x,l⟩:=st
 replace hi:x=(i:Int):=hi
 subst hi
 obtain⟨j1,j2⟩:(l.length:Int)≤(i:Int)∧∀c∈l,∃p:Nat,c=(p:Int)∧p<w.length∧p<P∧0<vec w p∧∀x∈w,0≤x:=hJ
 show Qf (Qhm (P:Int) [w] i l) _
 unfold Qhm
 rw [e1]
 refine T1 (fun hc=>?_) (fun _=>T2 (Qn ⟨by omega,j2⟩))
 simp only [Qx]at hc
 have i1:i<P:=by omega
 have hw:w64 ((i:Int)+1)=((i+1:Nat):Int):=Qw i1 (by unfold maxLen;omega)
 refine T0 (QBV w i hl) fun b hb=>?_
 unfold Qhl
 refine T1 (fun hc=>?_) fun _=>T2 (Qy ⟨i1,hw,by show(l.length:Int)≤w64 _;rw [hw];omega,j2⟩)
 obtain⟨b1,b2,b3⟩:=hb hc
 refine T0 (T5 (by simp;omega)) fun _ _=>T2 (Qy ⟨i1,hw,by show((l++[(i:Int)]).length:Int)≤w64 _;rw [hw];simp;omega,fun c hc=>?_⟩)
 rcases Qco.1 hc with hc | hc
 ·exact j2 c hc
 simp at hc;subst hc
 exact⟨i,rfl,b1,i1,b2,b3⟩
theorem QA2 : ∀(w t:List Int),(∀x∈w,0≤x)→(∀x∈t,0≤x)→0≤Qch w t
 | [],t,_,_=>by cases t<;>simp [Qch]
 | x::w,[],_,_=>by simp [Qch]
 | x::w,y::t,h1,h2=>by
  rw [Qch]
  have:=Int.mul_nonneg (h1 x Q5) (h2 y Q5)
  have:=QA2 w t (fun z hz=>h1 z (Qab _ hz)) fun z hz=>h2 z (Qab _ hz)
  omega
theorem QyV : ∀(w t:List Int) (p:Nat) (y:Int),(∀x∈w,0≤x)→(∀x∈t,0≤x)→0<vec w p→t[p]? = some y→y≤Qch w t
 | [],t,p,y,_,_,h,_=>by rw [QeT (by simp)]at h;omega
 | x::w,[],p,y,_,_,_,h=>by cases p<;>cases h
 | x::w,z::t,0,y,h1,h2,h3,h4=>by
  cases h4
  rw [Qch]
  have a:=QA2 w t (fun z hz=>h1 z (Qab _ hz)) fun z hz=>h2 z (Qab _ hz)
  have h3:0<x:=h3
  have b:z≤x*z:=by
   have:=Int.mul_le_mul_of_nonneg_right (show 1≤x by omega) (h2 z Q5)
   omega
  omega
 | x::w,z::t,p+1,y,h1,h2,h3,h4=>by
  rw [Qch]
  have a:=QyV w t p y (fun z hz=>h1 z (Qab _ hz)) (fun z hz=>h2 z (Qab _ hz)) h3 h4
  have:=Int.mul_nonneg (h1 x Q5) (h2 z Q5)
  omega
theorem QAO {n:Qk}{m0:List Bag}{picks:List Int}(hk:QU n)(hm0:QM (QM fun _=>True) m0):QeG n m0 picks=some true:=by
 unfold QeG
 rw [QBO,Qi]
 obtain⟨x7,h7,hfine⟩:=QE6 n hk
 obtain⟨x8,h8,hfine2⟩:=QES n m0 hk hm0
 rw [h7,Qi,h8,Qi]
 cases hcc:((!x7)||((!x8)||decide (8<(picks.length:Int))))with
 | true=>rfl
 | false=>
  rw [cond_false]
  simp only [QcZ,QiB,QY]at hcc
  obtain⟨c1,c2,c3⟩:=hcc
  obtain⟨hN,hp,ht⟩:=hfine c1
  obtain⟨_,hm,_⟩:=hfine2 c2
  have hm1:=hm.1
  obtain⟨x13,h13,hb⟩:=QBQ n hN hp ht
  rw [h13,Qi]
  rcases hb with⟨e1,e2⟩|⟨e1,h8',vs,sm,ps,hv,p1,p3,p4,F,E,hF,hF1,hE,hE1,hE2,s1,s2⟩
  ·rw [e1];rfl
  rw [e1,show((0:Int) != 0)=false from rfl,cond_false]
  obtain⟨l,hl,hl1,hl2,x,hx⟩:=QEb n m0 picks hN hm (by omega)
  rw [hl,Qi,QEW hN hm (by omega) (by omega) hx,Qi]
  have hxM:=Qz5 hN l 1024 m0 x hm hl2 (by omega) hx
  have hx1:=hxM.1
  have pn:ps.length≤n.Places.length:=by
   refine QoM _ (p1.imp fun h=>Nat.ne_of_lt h) fun p hp=>?_
   obtain⟨i,hi,rfl⟩:=Qk1.1 hp
   exact(p4 i _ _ (QD hi) (QD (by omega))).lt
  obtain⟨q,hq1,hq2⟩:=(Qf.up (body:=fun st=>Qdn x13 n m0 (x,(l.length:Int)) st) x13.1.length (fun st=>st) (fun _=>True) (Q:=fun q:Unit⊕Unit=>q=.inr ()) (s0:=(0:Int)) rfl trivial (fun i st hi hn2 hJ=>by
   replace hi:st=(i:Int):=hi
   subst hi
   show Qf (Qdn x13 n m0 (x,(l.length:Int)) i) _
   unfold Qdn
   refine T1 (fun hc=>?_) (fun _=>T2 (Qn rfl))
   simp only [Qx]at hc
   have i1:i<x13.1.length:=by omega
   have hw1:w64 ((i:Int)+1)=((i+1:Nat):Int):=Qw i1 (by unfold maxLen;omega)
   have hf:=p4 i _ _ (QD (show i<ps.length by omega)) (QD i1)
   have hh:=QCK hv hf hF1 hE2 (fun e he=>(s1 e he).1) s2
   rw [QN,QD i1,Qi]
   generalize x13.1[i]=w at hf hh
   have big:Big w:=QFj (by decide) hf.le
   have next:Qf (Qdl (i:Int)) fun o=>(∀s',o=.inl s'→i<x13.1.length∧s'=((i+1:Nat):Int)∧True)∧∀r:Unit⊕Unit,o=.inr r→r=.inr ():=by
    unfold Qdl
    exact T2 (Qy (ix:=fun st:Int=>st) (J:=fun _:Int=>True) ⟨i1,hw1,trivial⟩)
   refine T0 (QAp w n.Places.length (by rw [hf.len];unfold maxLen;omega) (by omega)) fun c hc1=>?_
   rw [Qi]
   obtain⟨v,hv1,hv2⟩:=QBU hN hm (by omega) big hf.len
   rw [hv1,Qi]
   refine T1 (fun _=>next) fun hc2=>?_
   have hv2:=hv2 (by simpa using hc2)
   have hwt:=Qva hN hp ht hF hF1 hE hf.len hh l 1024 m0 x hm hl2 (by omega) hx
   obtain⟨r,hr1,hr2⟩:=(Qf.up (body:=fun st=>Qdm c (x,(l.length:Int)) v st) c.length (fun st=>st) (fun _=>True) (Q:=fun q:Unit⊕Unit=>q=.inr ()) (s0:=(0:Int)) rfl trivial (fun k st hk hn3 _=>by
    replace hk:st=(k:Int):=hk
    subst hk
    show Qf (Qdm c (x,(l.length:Int)) v k) _
    unfold Qdm
    refine T1 (fun hc=>?_) (fun _=>T2 (Qn rfl))
    simp only [Qx]at hc
    have k1:k<c.length:=by omega
    obtain⟨p,hp1,hp2,hp3,hp4,hp5⟩:=hc1.2 _ (QaQ k1)
    have hpx:p<x.length:=by omega
    have hT:=QxS hxM (by omega) _ (QaQ hpx)
    unfold Qmk
    rw [QN,QD k1,Qi,hp1,Qa8 (by omega),cond_false,Qi,Qa8 (by show ¬(x.length:Int)≤_;omega),cond_false,Qi]
    show Qf (((idx x (p:Int)).bind _).bind _) _
    rw [QN,QD hpx,Qi,hT.1,Qi,Qi]
    have hle:QaS x[p]≤v.1:=by
     rw [hv2,←hwt]
     refine QyV w (x.map QaS) p _ hp5 (fun y hy=>?_) hp4 (by rw [Qan,QD hpx];rfl)
     obtain⟨b,hb,rfl⟩:=QG.1 hy
     exact(QxS hxM (by omega) b hb).2.1
    rw [Qa8 (by omega)]
    unfold Qe4
    exact T2 (Qy ⟨k1,Qw k1 (by have:=hc1.1;unfold maxLen;omega),trivial⟩)))
   subst hr2
   rw [hr1]
   exact next))
  subst hq2
  rw [hq1];rfl
end Go.Proofs
