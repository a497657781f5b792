/- A part of the proof; what it holds is told at each theorem. -/
import Derived.Test.YtbfgchciebcbpaaGreatDoorI1P1
import Derived.Test.YtbfgchciebcbpaaGreatDoorI1P1
import Derived.Test.YtbfgchciebcbpaaGreatDoorI1P1
set_option linter.unusedVariables false
set_option linter.unusedSimpArgs false
set_option linter.unusedSectionVars false
set_option linter.deprecated false
noncomputable section
namespace Go.Proofs
open Go Go.RowKit Go.Vm
theorem Qky : ∀(n:Nat) {l:List Nat},l.Nodup→(∀x∈l,x<n)→l.length≤n
 | 0,l,_,h=>by
  cases l with
  | nil=>exact QbJ _
  | cons x l=>exact absurd (h x Q8) (by omega)
 | n+1,l,hn,h=>by
  by_cases hm:n∈l
  ·have h1:=Qky n (hn.erase n) fun x hx=>by
    have h2:=h x (List.mem_of_mem_erase hx)
    have h3:x≠n:=fun e=>by subst e;exact(List.Nodup.not_mem_erase hn) hx
    omega
   rw [List.length_erase_of_mem hm]at h1
   omega
  have h1:=Qky n hn fun x hx=>by
   have h2:=h x hx
   have h3:x≠n:=fun e=>hm (e▸hx)
   omega
  omega
abbrev Qaf : Type:=List (Int×List Int)
def pv (q:Int×List Int):Nat×Vec:=(q.1.toNat,vec q.2)
structure Slv (n:Nat) (vs:List Vec) (m:Qaf):Prop where
 keys:∀q∈m,q.1=(q.1.toNat:Int)∧q.1.toNat<n∧q.2.length=n∧∀j,j<q.1.toNat→vec q.2 j=0
 nd:((m.map pv).map Prod.fst).Nodup
 sys:∃rs,Qj7 vs rs∧rs.Perm (m.map pv)
 mag:∀v∈vs,∀j,(v j).natAbs≤4
section
variable {n:Nat}{vs:List Vec}{m:Qaf}
theorem Slv.len (h:Slv n vs m):m.length≤n:=by
 have:=Qky n h.nd fun x hx=>by
  obtain⟨u,hu,rfl⟩:=Qv.1 hx
  obtain⟨q,hq,rfl⟩:=Qv.1 hu
  exact(h.keys q hq).2.1
 simpa using this
theorem Slv.red (h:Slv n vs m):Red (m.map pv):=by
 obtain⟨rs,hs,hp⟩:=h.sys
 exact⟨h.nd,fun q hq=>hs.red.ne q (hp.mem_iff.2 hq),fun q hq p hp2=>hs.red.zr q (hp.mem_iff.2 hq) p (hp.mem_iff.2 hp2)⟩
theorem Slv.prim (h:Slv n vs m){q:Int×List Int}(hq:q∈m):QjO (vec q.2):=by
 obtain⟨rs,hs,hp⟩:=h.sys
 exact hs.prim (pv q) (hp.mem_iff.2 (Qv.2 ⟨q,hq,rfl⟩))
theorem Slv.vlen (h:Slv n vs m):vs.length=m.length:=by
 obtain⟨rs,hs,hp⟩:=h.sys
 rw [hs.len,hp.length_eq];simp
theorem Slv.unit (h:Slv n vs m)(h8:m.length=n){q:Int×List Int}(hq:q∈m):(vec q.2 q.1.toNat).natAbs=1∧∀j,j≠q.1.toNat→vec q.2 j=0:=by
 have hz:∀j,j≠q.1.toNat→vec q.2 j=0:=fun j hj=>by
  by_cases hn:j<n
  ·by_cases hm:j∈(m.map pv).map Prod.fst
   ·obtain⟨u,hu,rfl⟩:=Qv.1 hm
    exact h.red.zr (pv q) (Qv.2 ⟨q,hq,rfl⟩) u hu hj
   have h1:(j::(m.map pv).map Prod.fst).Nodup:=QbW.2 ⟨hm,h.nd⟩
   have h2:=Qky n h1 fun x hx=>by
    rcases Q3.1 hx with rfl | hx
    ·exact hn
    obtain⟨u,hu,rfl⟩:=Qv.1 hx
    obtain⟨w,hw,rfl⟩:=Qv.1 hu
    exact(h.keys w hw).2.1
   simp at h2;omega
  exact QeE (by rw [(h.keys q hq).2.2.1];omega)
 refine⟨h.prim hq _ fun j=>?_,hz⟩
 by_cases e:j=q.1.toNat
 ·rw [e];exact Nat.dvd_refl _
 rw [hz j e];exact Nat.dvd_zero _
theorem QvF {k:Nat}(h:k≤7):fac k*4 ^ k≤82575360:=by
 have:∀k,k<8→fac k*4 ^ k≤82575360:=by decide
 exact this k (by omega)
theorem Slv.le (h:Slv n vs m)(hn:n≤8){q:Int×List Int}(hq:q∈m)(j:Nat):(vec q.2 j).natAbs≤82575360:=by
 by_cases h7:m.length≤7
 ·obtain⟨rs,hs,hp⟩:=h.sys
  have:=hs.le h.mag (hp.mem_iff.2 (Qv.2 ⟨q,hq,rfl⟩)) j
  exact Qas this (by rw [h.vlen];exact QvF h7)
 have h1:=h.len
 obtain⟨u1,u2⟩:=h.unit (by omega) hq
 by_cases e:j=q.1.toNat
 ·rw [e,u1];omega
 rw [u2 j e];simp
def Qex (v:Vec)(S:Qaf):Int:=S.foldr (fun q a=>(if v q.1.toNat=0 then 1 else vec q.2 q.1.toNat)*a) 1
theorem QsT (v:Vec){S T:Qaf}(h:S.Perm T):Qex v S=Qex v T:=by
 induction h with
 | nil=>rfl
 | cons x _ ih=>show _*Qex v _=_*Qex v _;rw [ih]
 | swap x y l=>show _*(_*Qex v l)=_*(_*Qex v l);rw [Qjn]
 | trans _ _ h1 h2=>rw [h1,h2]
theorem QpM (v:Vec)(q:Int×List Int):∀S:Qaf,Qex v (S++[q])=(if v q.1.toNat=0 then 1 else vec q.2 q.1.toNat)*Qex v S
 | []=>rfl
 | x::S=>by
  show _*Qex v (S++[q])=_*(_*Qex v S)
  rw [QpM v q S,Qjn]
theorem Q0.at {vs:List Vec}{x:Vec}(h:Q0 vs x){p:Nat}(hz:∀v∈vs,v p=0):x p=0:=by
 induction h with
 | zero=>rfl
 | mem v hv=>exact hz v hv
 | lin a b x y _ _ h1 h2=>show a*x p+b*y p=0;rw [h1,h2];simp
structure Mid (n:Nat) (m:Qaf) (v:Vec) (S:Qaf) (row:List Int):Prop where
 len:row.length=n
 pz:QjO (vec row)∨∀j,vec row j=0
 rel:∃be:Nat,0<be∧Q0 ((S.map pv).map Prod.snd) fun j=>Qex v S*v j-(be:Int)*vec row j
 zer:∀q∈S,vec row q.1.toNat=0
 four:m.length=n→∀j,(vec row j).natAbs≤4
theorem Qp2 (h:Slv n vs m)(v:Vec):∀S:Qaf,(∀q∈S,q∈m)→Qex v S≠0
 | [],_=>by show(1:Int)≠0;decide
 | x::S,hS=>by
  show _*Qex v S≠0
  refine Int.mul_ne_zero ?_ (Qp2 h v S fun q hq=>hS q (Qar _ hq))
  split
  ·decide
  exact h.red.ne (pv x) (Qv.2 ⟨x,hS x Q8,rfl⟩)
theorem Mid.mag (h:Slv n vs m)(hn:n≤8){v:Vec}(hv:∀j,(v j).natAbs≤4){S:Qaf}{row:List Int}(hm:Mid n m v S row)(hS:∀q∈S,q∈m)(hnd:((S.map pv).map Prod.fst).Nodup)(j:Nat):(vec row j).natAbs≤2642411520:=by
 rcases hm.pz with hp | hz
 ·by_cases h7:m.length≤7
  ·obtain⟨rs,hs,hperm⟩:=h.sys
   obtain⟨be,hb,hrel⟩:=hm.rel
   have hl:S.length≤7:=by
    have h1:S.length≤m.length:=by
     have sub:∀(A B:Qaf),((A.map pv).map Prod.fst).Nodup→(∀q∈A,q∈B)→A.length≤B.length:=by
      intro A
      induction A with
      | nil=>intro B _ _;exact Nat.zero_le _
      | cons x A ih=>
       intro B hn hs
       rw [Qaw,Qaw,QbW]at hn
       obtain⟨p,s,rfl⟩:=QpO (hs x Q8)
       have:=ih (p++s) hn.2 fun q hq=>by
        have h1:=hs q (Qar _ hq)
        rcases QeG.1 h1 with h1 | h1
        ·exact Qml _ h1
        rcases Q3.1 h1 with h1 | h1
        ·exfalso
         exact hn.1 (Qv.2 ⟨pv q,Qv.2 ⟨q,hq,rfl⟩,by rw [h1]⟩)
        exact List.mem_append_right _ h1
       simp at this ⊢;omega
     exact sub S m hnd hS
    omega
   have:=hs.mid (m:=4) (B:=82575360) (by rw [h.vlen];exact QvF h7) h.mag (v:=v) (w:=vec row) hv (al:=Qex v S) (be:=(be:Int)) (Qp2 h v S hS) (by omega) (S:=S.map pv) (fun u hu=>by
    obtain⟨q,hq,rfl⟩:=Qv.1 hu
    exact hperm.mem_iff.2 (Qv.2 ⟨q,hS q hq,rfl⟩)) hnd hrel (fun u hu=>by
    obtain⟨q,hq,rfl⟩:=Qv.1 hu
    exact hm.zer q hq) hp j
   rw [Qjp]at this
   refine Qas this ?_
   have:(S.length+1)*(4*82575360)≤8*(4*82575360):=QbX _ (by omega)
   omega
  have h1:=h.len
  have:=hm.four (by omega) j
  omega
 rw [hz j];simp
theorem Mid.start {row:List Int}(hl:row.length=n)(hv:∀j,(vec row j).natAbs≤4):Mid n m (vec row) [] (Qef row):=by
 refine⟨by rw [QtZ,hl],?_,?_,(fun q h=>by cases h),fun _ j=>Qas (Qp1 row j) (hv j)⟩
 ·by_cases h:∃j,vec row j≠0
  ·exact .inl (QsS h)
  right;intro j
  have h1:vec row j=0:=by
   cases Decidable.em (vec row j=0)with
   | inl e=>exact e
   | inr e=>exact absurd ⟨j,e⟩ h
  have h2:=Qp1 row j
  rw [h1]at h2
  exact Int.natAbs_eq_zero.1 (by simpa using h2)
 obtain⟨c,hc,h⟩:=Qrj row
 refine⟨c,hc,?_⟩
 have e:(fun j=>Qex (vec row) []*vec row j-(c:Int)*vec (Qef row) j)=fun _=>0:=by
  funext j
  rw [←h j]
  show 1*vec row j-vec row j=0
  omega
 rw [e];exact .zero
theorem Mid.step (h:Slv n vs m)(hn:n≤8){v:Vec}(hv:∀j,(v j).natAbs≤4){S:Qaf}{row:List Int}(hm:Mid n m v S row)(hS:∀q∈S,q∈m)(hnd:((S.map pv).map Prod.fst).Nodup){q:Int×List Int}(hq:q∈m)(hqn:q.1.toNat ∉ (S.map pv).map Prod.fst):
  Q1 (n:Int) row q.2 q.1=some (Qa6 n row q.2 q.1.toNat)∧Mid n m v (S++[q]) (Qa6 n row q.2 q.1.toNat):=by
 obtain⟨k1,k2,k3,k4⟩:=h.keys q hq
 have mg:=hm.mag h hn hv hS hnd
 have ml:=h.le hn hq
 have hcl:Q1 (n:Int) row q.2 q.1=some (Qa6 n row q.2 q.1.toNat):=by
  have b1:∀a b:Nat,a≤2642411520→b≤82575360→a*b≤4611686018427387903:=fun a b ha hb=>Qas (QnQ ha hb) (by decide)
  have:=Qt1 (k:=q.1.toNat) hm.len k3 k2 (by omega) (fun j=>by rw [QgK];exact b1 _ _ (mg j) (ml _)) (fun j=>by rw [QgK,Qkd];exact b1 _ _ (mg _) (ml j))
  rw [←k1]at this
  exact this
 refine⟨hcl,?_⟩
 obtain⟨be,hb,hrel⟩:=hm.rel
 have other:∀u∈(S.map pv).map Prod.snd,u q.1.toNat=0:=fun u hu=>by
  obtain⟨w,hw,rfl⟩:=Qv.1 hu
  obtain⟨x,hx,rfl⟩:=Qv.1 hw
  exact h.red.zr (pv x) (Qv.2 ⟨x,hS x hx,rfl⟩) (pv q) (Qv.2 ⟨q,hq,rfl⟩) fun e=>hqn (Qv.2 ⟨pv x,Qv.2 ⟨x,hx,rfl⟩,e.symm⟩)
 have atq:Qex v S*v q.1.toNat=(be:Int)*vec row q.1.toNat:=by
  have:=Q0.at hrel other
  have h2:Qex v S*v q.1.toNat-(be:Int)*vec row q.1.toNat=0:=this
  omega
 have ups:∀{x},Q0 ((S.map pv).map Prod.snd) x→Q0 (((S++[q]).map pv).map Prod.snd) x:=fun hx=>hx.mono fun u hu=>.mem u (by
  rw [QnO,QnO];exact Qml _ hu)
 by_cases h0:vec row q.1.toNat=0
 ·have hc:Qa6 n row q.2 q.1.toNat=row:=by unfold Qa6;rw [if_pos h0]
  have hv0:v q.1.toNat=0:=by
   rw [h0,QfI]at atq
   exact(QhG.1 atq).resolve_left (Qp2 h v S hS)
  rw [hc]
  refine⟨hm.len,hm.pz,⟨be,hb,?_⟩,?_,hm.four⟩
  ·rw [QpM,if_pos hv0,Int.one_mul];exact ups hrel
  intro x hx
  rcases QeG.1 hx with hx | hx
  ·exact hm.zer x hx
  rw [Qmp]at hx;rw [hx];exact h0
 have hv0:v q.1.toNat≠0:=fun e=>by
  rw [e,QfI]at atq
  rcases QhG.1 atq.symm with h1 | h1
  ·omega
  exact h0 h1
 obtain⟨c,hc,hcr⟩:=Quu (k:=q.1.toNat) hm.len k3 h0
 have cz:∀j,vec q.2 q.1.toNat*vec row j-vec row q.1.toNat*vec q.2 j=0→vec (Qa6 n row q.2 q.1.toNat) j=0:=fun j e=>by
  have:=hcr j
  rw [e]at this
  exact(QhG.1 this).resolve_left (by omega)
 refine⟨Qt0 hm.len,Qt2 hm.pz,⟨be*c,Nat.mul_pos hb hc,?_⟩,?_,?_⟩
 ·rw [QpM,if_neg hv0]
  have h1:=Q0.lin (vec q.2 q.1.toNat) ((be:Int)*vec row q.1.toNat) _ _ (ups hrel) (Q0.mem (vs:=((S++[q]).map pv).map Prod.snd) (vec q.2) (by simp [pv]))
  have e:(fun j=>vec q.2 q.1.toNat*Qex v S*v j-((be*c:Nat):Int)*vec (Qa6 n row q.2 q.1.toNat) j)=fun j=>vec q.2 q.1.toNat*(Qex v S*v j-(be:Int)*vec row j)+(be:Int)*vec row q.1.toNat*vec q.2 j:=by
   funext j
   have:=hcr j
   have e1:((be*c:Nat):Int)*vec (Qa6 n row q.2 q.1.toNat) j=(be:Int)*((c:Int)*vec (Qa6 n row q.2 q.1.toNat) j):=by rw [Int.natCast_mul,Qeh]
   rw [e1,this,Int.mul_sub,Int.mul_sub,Qeh,Qeh,Qjn (be:Int) (vec q.2 q.1.toNat)]
   omega
  rw [e];exact h1
 ·intro x hx
  refine cz _ ?_
  rcases QeG.1 hx with hx | hx
  ·rw [hm.zer x hx,h.red.zr (pv q) (Qv.2 ⟨q,hq,rfl⟩) (pv x) (Qv.2 ⟨x,hS x hx,rfl⟩) (fun e=>hqn (Qv.2 ⟨pv x,Qv.2 ⟨x,hx,rfl⟩,e⟩)) |> fun (e:vec q.2 x.1.toNat=0)=>e]
   simp
  rw [Qmp]at hx;rw [hx,QiJ];omega
 intro h8 j
 obtain⟨u1,u2⟩:=h.unit h8 hq
 refine Qas (Qxe hm.len k3 j h0) ?_
 by_cases e:j=q.1.toNat
 ·rw [e,QiJ,Int.sub_self];simp
 rw [u2 j e]
 have:(vec row j*vec q.2 q.1.toNat-0*vec row q.1.toNat).natAbs=(vec row j).natAbs:=by
  rw [Int.zero_mul,Int.sub_zero,QgK,u1,Nat.mul_one]
 rw [this];exact hm.four h8 j
end
end Go.Proofs
noncomputable section
namespace Go.Proofs
open Go Go.RowKit Go.Vm
def QiI (n:Nat)(row:List Int)(L:Qaf):List Int:=L.foldl (fun r q=>Qa6 n r q.2 q.1.toNat) row
section
variable {n:Nat}{vs:List Vec}{m:Qaf}
theorem Qxf (h:Slv n vs m)(hn:n≤8){v:Vec}(hv:∀j,(v j).natAbs≤4):∀(T S:Qaf) (row:List Int),Mid n m v S row→(∀q∈S++T,q∈m)→(((S++T).map pv).map Prod.fst).Nodup→
  Qb2 (fun st p=>QaG (n:Int) st p.1 p.2) row T=some (.inl (QiI n row T))∧Mid n m v (S++T) (QiI n row T)
 | [],S,row,hm,_,_=>⟨rfl,by rw [List.append_nil];exact hm⟩
 | q::T,S,row,hm,hS,hnd=>by
  have hnd2:=hnd
  rw [QnO,QnO,List.nodup_append]at hnd2
  obtain⟨n1,n2,n3⟩:=hnd2
  have hq:q∈m:=hS q (by simp)
  have hqn:q.1.toNat ∉ (S.map pv).map Prod.fst:=fun hh=>n3 _ hh q.1.toNat (by simp [pv]) rfl
  obtain⟨h1,h2⟩:=hm.step h hn hv (fun x hx=>hS x (Qml _ hx)) n1 hq hqn
  have e:S++q::T=(S++[q])++T:=by simp
  obtain⟨h3,h4⟩:=Qxf h hn hv T (S++[q]) _ h2 (by rw [←e];exact hS) (by rw [←e];exact hnd)
  refine⟨?_,by rw [e];exact h4⟩
  rw [Qb2]
  show(QaG (n:Int) row q.1 q.2).bind _=_
  unfold QaG
  rw [h1,Qr,Qr]
  exact h3
theorem QwE {a b:Vec}{x y:Nat}(ha:QjO a)(hb:QjO b)(hx:0<x)(hy:0<y)(h:∀j,(x:Int)*a j=(y:Int)*b j):∀j,a j=b j:=by
 obtain⟨t,t1,t2,t3⟩:=ha.fits (x:=(x:Int)) (y:=(y:Int)) (R:=b) (by omega) (by omega) h
 obtain⟨u,u1,u2,u3⟩:=hb.fits (x:=(y:Int)) (y:=(x:Int)) (R:=a) (by omega) (by omega) (fun j=>(h j).symm)
 have h1:(x:Int)*1=(x:Int)*(u*t):=by
  have:(x:Int)=(x:Int)*u*t:=by rw [←u2];exact t2
  rw [Int.mul_one,←Qeh];exact this
 have h2:=Int.eq_of_mul_eq_mul_left (by omega:(x:Int)≠0) h1
 have ht:0<t:=by
  have:0<(y:Int)*t:=by rw [←t2];omega
  rcases Int.lt_trichotomy t 0 with h3 | h3 | h3
  ·have:(y:Int)*t<0:=Int.mul_neg_of_pos_of_neg (by omega) h3
   omega
  ·exact absurd h3 t1
  exact h3
 have ht1:t=1:=by
  have hu:0<u:=by
   rcases Int.lt_trichotomy u 0 with h3 | h3 | h3
   ·have:=Int.mul_neg_of_neg_of_pos h3 ht;omega
   ·exact absurd h3 u1
   exact h3
  have:1*t≤u*t:=Int.mul_le_mul_of_nonneg_right (by omega) (by omega)
  omega
 intro j
 rw [t3 j,ht1,Int.one_mul]
theorem Mid.uniq (h:Slv n vs m){v:Vec}{A B:Qaf}(hA:A.Perm m)(hB:B.Perm m){a b:List Int}(ma:Mid n m v A a)(mb:Mid n m v B b):a=b:=by
 refine QsC (by rw [ma.len,mb.len]) ?_
 obtain⟨x,hx,ra⟩:=ma.rel
 obtain⟨y,hy,rb⟩:=mb.rel
 rw [QsT v hA]at ra
 rw [QsT v hB]at rb
 have pa:∀{z},Q0 ((A.map pv).map Prod.snd) z→Q0 ((m.map pv).map Prod.snd) z:=fun hz=>hz.mono fun u hu=>.mem u (by
  exact((hA.map pv).map Prod.snd).mem_iff.1 hu)
 have pb:∀{z},Q0 ((B.map pv).map Prod.snd) z→Q0 ((m.map pv).map Prod.snd) z:=fun hz=>hz.mono fun u hu=>.mem u (by
  exact((hB.map pv).map Prod.snd).mem_iff.1 hu)
 have hs:=Q0.sub 1 1 (pb rb) (pa ra)
 have e:(fun j=>1*(Qex v m*v j-(y:Int)*vec b j)-1*(Qex v m*v j-(x:Int)*vec a j))=fun j=>(x:Int)*vec a j-(y:Int)*vec b j:=by funext j;omega
 rw [e]at hs
 have h0:=h.red.inj hs (fun u hu=>by
  obtain⟨q,hq,rfl⟩:=Qv.1 hu
  show(x:Int)*vec a q.1.toNat-(y:Int)*vec b q.1.toNat=0
  rw [ma.zer q (hA.mem_iff.2 hq),mb.zer q (hB.mem_iff.2 hq)];simp)
 have hab:∀j,(x:Int)*vec a j=(y:Int)*vec b j:=fun j=>by have:=h0 j;omega
 rcases ma.pz with p1 | z1
 ·rcases mb.pz with p2 | z2
  ·exact QwE p1 p2 hx hy hab
  intro j
  have:=hab j
  rw [z2 j,QfI]at this
  rw [z2 j];exact(QhG.1 this).resolve_left (by omega)
 intro j
 have:=hab j
 rw [z1 j,QfI]at this
 rw [z1 j];exact((QhG.1 this.symm).resolve_left (by omega)).symm
theorem Quv (h:Slv n vs m){A:Qaf}(hA:A.Perm m):((A.map pv).map Prod.fst).Nodup:=((hA.map pv).map Prod.fst).nodup_iff.2 h.nd
theorem Qxg (h:Slv n vs m)(hn:n≤8){row:List Int}(hl:row.length=n)(hv:∀j,(vec row j).natAbs≤4):
  Qdw (fun st p=>QaG (n:Int) st p.1 p.2) (Qef row) m=some (.inl (QiI n (Qef row) m))∧Mid n m (vec row) m (QiI n (Qef row) m):=by
 have st:=Mid.start (m:=m) hl hv
 have go:∀A:Qaf,A.Perm m→Qb2 (fun st p=>QaG (n:Int) st p.1 p.2) (Qef row) A=some (.inl (QiI n (Qef row) A))∧Mid n m (vec row) A (QiI n (Qef row) A):=fun A hA=>by
  have:=Qxf h hn hv A [] _ st (fun q hq=>hA.mem_iff.1 (by simpa using hq)) (by simpa using Quv h hA)
  simpa using this
 have g0:=go m (List.Perm.refl _)
 refine⟨QhJ.2 ⟨fun l' hl'=>?_,g0.1⟩,g0.2⟩
 have g1:=go l' hl'
 rw [g1.1,g0.1,Mid.uniq h hl' (List.Perm.refl _) g1.2 g0.2]
def QkF (f:List Int→List Int)(S:List Int)(m:Qaf):Qaf:=m.map fun e=>(e.1,if e.1∈S then f e.2 else e.2)
theorem QvG (f:List Int→List Int)(S:List Int)(m:Qaf):(QkF f S m).map Prod.fst=m.map Prod.fst:=by simp [QkF]
theorem mget_of_mem {m:Qaf}(hn:(m.map Prod.fst).Nodup){k:Int}{v:List Int}(h:(k,v)∈m):Qb1 m k=some v:=by
 induction m with
 | nil=>cases h
 | cons e m ih=>
  obtain⟨a,x⟩:=e
  rw [Qaw,QbW]at hn
  rw [Qpw]
  rcases Q3.1 h with e | h
  ·cases e;rw [if_pos rfl]
  rw [if_neg (fun e=>hn.1 (Qv.2 ⟨(k,v),h,e.symm⟩)),ih hn.2 h]
theorem Qwi {m:Qaf}(hn:(m.map Prod.fst).Nodup)(k:Int)(v:List Int):Qim m k v=m.map fun e=>(e.1,if e.1=k then v else e.2):=by
 induction m with
 | nil=>rfl
 | cons e m ih=>
  obtain⟨a,x⟩:=e
  rw [Qaw,QbW]at hn
  show(if a=k then(k,v)::m else(a,x)::Qim m k v)=(a,if a=k then v else x)::m.map _
  by_cases ha:a=k
  ·rw [if_pos ha,if_pos ha,ha]
   congr 1
   have:∀e∈m,(e.1,if e.1=k then v else e.2)=e:=fun e he=>by
    rw [if_neg (fun e2=>hn.1 (Qv.2 ⟨e,he,by rw [e2,ha]⟩))]
   conv=>lhs;rw [←List.map_id m]
   exact QgL fun e he=>(this e he).symm
  rw [if_neg ha,if_neg ha,ih hn.2]
theorem Qwj {f:List Int→List Int}{S:List Int}(hn:(m.map Prod.fst).Nodup){k:Int}{v:List Int}(h:(k,v)∈m)(hk:k ∉ S):QbR ltI (QkF f S m) k (f v)=QkF f (S++[k]) m:=by
 have hn2:((QkF f S m).map Prod.fst).Nodup:=by rw [QvG];exact hn
 have hm:(k,v)∈QkF f S m:=Qv.2 ⟨(k,v),h,by rw [if_neg hk]⟩
 unfold QbR
 rw [mget_of_mem hn2 hm]
 show Qim (QkF f S m) k (f v)=_
 rw [Qwi hn2]
 unfold QkF
 rw [Qda]
 refine QgL fun e he=>?_
 show(e.1,if e.1=k then f v else if e.1∈S then f e.2 else e.2)=(e.1,if e.1∈S++[k]then f e.2 else e.2)
 by_cases ek:e.1=k
 ·have:e.2=v:=by
   have h1:=mget_of_mem hn (show(e.1,e.2)∈m from he)
   rw [ek,mget_of_mem hn h]at h1
   exact(Option.some.inj h1).symm
  rw [if_pos ek,if_pos (by rw [ek];simp),this]
 rw [if_neg ek]
 by_cases es:e.1∈S
 ·rw [if_pos es,if_pos (Qml _ es)]
 rw [if_neg es,if_neg (by simp [es,ek])]
theorem Qxh {n q:Nat}{row:List Int}(hn:(m.map Prod.fst).Nodup)(hc:∀e∈m,Q1 (n:Int) e.2 row (q:Int)=some (Qa6 n e.2 row q)):
  Qdw (fun st p=>Qag (n:Int) row (q:Int) st p.1 p.2) m m=some (.inl (m.map fun e=>(e.1,Qa6 n e.2 row q))):=by
 have go:∀(T:Qaf) (S:List Int),(∀e∈T,e∈m)→(S++T.map Prod.fst).Nodup→Qb2 (fun st p=>Qag (n:Int) row (q:Int) st p.1 p.2) (QkF (fun r=>Qa6 n r row q) S m) T=some (.inl (QkF (fun r=>Qa6 n r row q) (S++T.map Prod.fst) m)):=by
  intro T
  induction T with
  | nil=>intro S _ _;rw [List.map_nil,List.append_nil];rfl
  | cons e T ih=>
   intro S hT hnd
   have hk:e.1 ∉ S:=fun hh=>by
    rw [List.nodup_append]at hnd
    exact hnd.2.2 _ hh e.1 (by simp) rfl
   have e2:S++(e::T).map Prod.fst=(S++[e.1])++T.map Prod.fst:=by simp
   rw [Qb2]
   show(Qag (n:Int) row (q:Int) _ e.1 e.2).bind _=_
   unfold Qag
   rw [hc e (hT e Q8),Qr,Qr,Qwj (f:=fun r=>Qa6 n r row q) hn (hT e Q8) hk]
   rw [e2]at hnd ⊢
   exact ih _ (fun x hx=>hT x (Qar _ hx)) hnd
 have all:∀A:Qaf,A.Perm m→Qb2 (fun st p=>Qag (n:Int) row (q:Int) st p.1 p.2) m A=some (.inl (m.map fun e=>(e.1,Qa6 n e.2 row q))):=fun A hA=>by
  have h0:QkF (fun r=>Qa6 n r row q) [] m=m:=by
   unfold QkF
   conv=>rhs;rw [←List.map_id m]
   exact QgL fun e he=>by simp
  have h1:=go A [] (fun e he=>hA.mem_iff.1 he) (by simpa using (hA.map Prod.fst).nodup_iff.2 hn)
  rw [h0,List.nil_append]at h1
  rw [h1]
  congr 2
  refine QgL fun e he=>?_
  rw [if_pos ((hA.map Prod.fst).mem_iff.2 (Qv.2 ⟨e,he,rfl⟩))]
 exact QhJ.2 ⟨fun l' hl'=>by rw [all l' hl',all m (List.Perm.refl _)],all m (List.Perm.refl _)⟩
end
end Go.Proofs
noncomputable section
namespace Go.Proofs
open Go Go.RowKit Go.Vm
theorem QwF {s:List Int}(hm:s.length≤maxLen):QaX s=some ((Qcj (fun _ x=>x != 0) 0 s).elim (-1) fun i=>(i:Int)):=by
 unfold QaX
 have h:=QsR (body:=fun st=>QY s st) (l:=s) (fun i=>(i:Int)) (fun _ x=>x != 0) (fun i=>.inl (i:Int)) (.inr ()) (fun i x hi hx=>by
  show QY s (i:Int)=_
  unfold QY QfT
  rw [Qcn (show(i:Int)<(s.length:Int) by omega),Q2,hx,QB hi hm]
  simp only [cond_true,Qr]
  cases (x != 0)<;>rfl) (by
  show QY s (s.length:Int)=_
  unfold QY
  rw [Qcm (by omega)];rfl) (s0:=0) rfl
 rw [h]
 cases Qcj (fun _ x=>x != 0) 0 s<;>rfl
theorem Qr7 {α:Type}{p:α→Bool}:∀{l:List α} {k n:Nat},Qcj (fun _ x=>p x) k l=some n→∀i x,k+i<n→l[i]? = some x→p x=false
 | [],k,n,h,i,x,_,hx=>by simp at hx
 | y::l,k,n,h,i,x,hi,hx=>by
  rw [Qcj]at h
  cases hp:p y with
  | true=>rw [hp,cond_true]at h;cases h;omega
  | false=>
   rw [hp,cond_false]at h
   cases i with
   | zero=>simp at hx;subst hx;exact hp
   | succ i=>exact Qr7 h i x (by omega) (by simpa using hx)
theorem mins_perm (lt:Int→Int→Bool)(k:Int)(v:List Int):∀m:Qaf,(Qo4 lt m k v).Perm ((k,v)::m)
 | []=>List.Perm.refl _
 | (a,x)::m=>by
  rw [Qo4]
  split
  ·exact List.Perm.refl _
  exact(List.Perm.cons _ (mins_perm lt k v m)).trans (List.Perm.swap _ _ _)
theorem Qt3 {m:Qaf}{k:Int}(h:k ∉ m.map Prod.fst):Qb1 m k=none:=by
 induction m with
 | nil=>rfl
 | cons e m ih=>
  obtain⟨a,x⟩:=e
  rw [Qaw,Q3,not_or]at h
  rw [Qpw,if_neg (fun e=>h.1 e.symm),ih h.2]
section
variable {n:Nat}{vs:List Vec}{m:Qaf}
theorem Slv.knd (h:Slv n vs m):(m.map Prod.fst).Nodup:=by
 have h1:=h.nd
 have e:(m.map pv).map Prod.fst=(m.map Prod.fst).map Int.toNat:=by simp [pv,Qda,Function.comp_def]
 rw [e]at h1
 clear e
 have key:∀l:List Int,(l.map Int.toNat).Nodup→l.Nodup:=by
  intro l
  induction l with
  | nil=>intro _;exact List.nodup_nil
  | cons a l ih=>
   intro h
   rw [Qaw,QbW]at h
   exact QbW.2 ⟨fun hm=>h.1 (Qv.2 ⟨a,hm,rfl⟩),ih h.2⟩
 exact key _ h1
def Qwk (n:Nat)(m:Qaf)(row:List Int):Qaf:=match Qcj (fun _ x=>x != 0) 0 (QiI n (Qef row) m)with
 | none=>m
 | some q=>QbR ltI (m.map fun e=>(e.1,Qa6 n e.2 (QiI n (Qef row) m) q)) (q:Int) (QiI n (Qef row) m)
theorem QvH (h:Slv n vs m)(hn:n≤8){row:List Int}(hl:row.length=n)(hv:∀j,(vec row j).natAbs≤4):Qc7 (n:Int) m row=some (Qwk n m row)∧∃vs',Slv n vs' (Qwk n m row):=by
 have mx:(8:Nat)≤maxLen:=by decide
 obtain⟨r1,r2⟩:=Qxg h hn hl hv
 unfold Qc7 QbS Qwk
 rw [Qtf (by show(0+row.length)*8≤140737488355328;omega),Qr,Qr,List.nil_append,Qr6 (fun x hx=>by
  obtain⟨j,hj,rfl⟩:=Qmn.1 hx
  have:=hv j
  rw [QeU hj]at this
  unfold Sm;omega) (by omega),Qr,r1,Qr]
 generalize QiI n (Qef row) m=y at *
 show Qde m (n:Int) y=_∧_
 unfold Qde
 rw [QwF (by rw [r2.len];omega),Qr]
 cases hs:Qcj (fun _ x=>x != 0) 0 y with
 | none=>exact⟨rfl,vs,h⟩
 | some q=>
  obtain⟨i,x,e,hx,hne⟩:=Qoo hs
  rw [Qk4]at e;subst e
  have hqn:q<n:=by rw [←r2.len];exact(QE.1 hx).1
  have hyq:vec y q≠0:=by
   have:=Qca (row:=y) (by rw [r2.len];exact hqn)
   rw [this]at hx;cases hx
   simpa using hne
  have hfirst:∀j,j<q→vec y j=0:=fun j hj=>by
   have:=Qr7 hs j (vec y j) (by omega) (Qca (by rw [r2.len];omega))
   simpa using this
  have hyz:∀e∈m,vec y e.1.toNat=0:=r2.zer
  have hyp:QjO (vec y):=r2.pz.resolve_right fun hz=>hyq (hz q)
  have ymag:=r2.mag h hn hv (fun q hq=>hq) h.nd
  have hc:∀e∈m,Q1 (n:Int) e.2 y (q:Int)=some (Qa6 n e.2 y q):=fun e he=>by
   have ml:=h.le hn he
   have b1:∀a b:Nat,a≤82575360→b≤2642411520→a*b≤4611686018427387903:=fun a b ha hb=>Qas (QnQ ha hb) (by decide)
   exact Qt1 (h.keys e he).2.2.1 r2.len hqn (by omega) (fun j=>by rw [QgK];exact b1 _ _ (ml j) (ymag _)) (fun j=>by rw [QgK,Qkd];exact b1 _ _ (ml _) (ymag j))
  have hkq:(q:Int) ∉ m.map Prod.fst:=fun hm=>by
   obtain⟨e,he,e2⟩:=Qv.1 hm
   have:=hyz e he
   rw [e2,Qmj]at this
   exact hyq this
  constructor
  ·show(bif decide ((q:Int)<0)then some m else(Qdw (fun st p=>Qag (n:Int) y (q:Int) st p.1 p.2) m m).bind (Sum.elim (fun z=>Qft (q:Int) y z) (fun z=>Empty.elim z)))=_
   rw [Qcm (by omega),cond_false,Qxh h.knd hc,Qr]
   rfl
  obtain⟨rs,hsys,hperm⟩:=h.sys
  obtain⟨be,hb,hrel⟩:=r2.rel
  let up:Nat×Vec→Vec:=fun u=>vec (Qa6 n ((List.range n).map u.2) y q)
  have hrow:∀e∈m,(List.range n).map (vec e.2)=e.2:=fun e he=>by
   have hl2:=(h.keys e he).2.2.1
   refine QsC (by simp [hl2]) fun j=>?_
   by_cases hj:j<n
   ·rw [QeU (by simpa using hj)];simp
   rw [QeE (by simp;omega),QeE (by omega)]
  have hup:∀e∈m,up (pv e)=vec (Qa6 n e.2 y q):=fun e he=>by
   show vec (Qa6 n ((List.range n).map (vec e.2)) y q)=_
   rw [hrow e he]
  have upf:∀e∈m,up (pv e) q=0∧(∃g b c:Int,g≠0∧b≠0∧∀j,g*up (pv e) j=b*vec e.2 j-c*vec y j)∧(∀j,j<e.1.toNat→up (pv e) j=0):=fun e he=>by
   rw [hup e he]
   obtain⟨k1,k2,k3,k4⟩:=h.keys e he
   by_cases h0:vec e.2 q=0
   ·have hcl:Qa6 n e.2 y q=e.2:=by unfold Qa6;rw [if_pos h0]
    rw [hcl]
    exact⟨h0,⟨1,1,0,by decide,by decide,fun j=>by simp⟩,k4⟩
   obtain⟨c,hc,hcr⟩:=Quu (k:=q) k3 r2.len h0
   have hz:∀j,vec y q*vec e.2 j-vec e.2 q*vec y j=0→vec (Qa6 n e.2 y q) j=0:=fun j e3=>by
    have:=hcr j
    rw [e3]at this
    exact(QhG.1 this).resolve_left (by omega)
   refine⟨hz q (by rw [QiJ];omega),⟨(c:Int),vec y q,vec e.2 q,by omega,hyq,hcr⟩,fun j hj=>hz j ?_⟩
   have hpq:e.1.toNat≤q:=by
    cases QcS q e.1.toNat with
    | inl h3=>exact absurd (k4 q h3) h0
    | inr h3=>exact h3
   rw [k4 j hj,hfirst j (by omega)];simp
  have nsys:=hsys.add (v:=vec row) (y:=vec y) (q:=q) (al:=Qex (vec row) m) (be:=(be:Int)) (Qp2 h _ m fun q hq=>hq) (by omega) (hrel.mono fun u hu=>.mem u (by
    exact((hperm.map Prod.snd).mem_iff).2 hu)) (fun u hu=>by
    obtain⟨e,he,rfl⟩:=Qv.1 (hperm.mem_iff.1 hu)
    exact hyz e he) hyq hyp up (fun u hu=>by
    obtain⟨e,he,rfl⟩:=Qv.1 (hperm.mem_iff.1 hu)
    obtain⟨u1,u2,u3⟩:=upf e he
    refine⟨?_,u1,u2⟩
    rw [hup e he]
    refine(Qt2 (.inl (h.prim he))).resolve_right fun hz=>?_
    obtain⟨g,b,c,hg,hb2,he2⟩:=u2
    have h1:=he2 e.1.toNat
    rw [hyz e he,hup e he,hz]at h1
    rw [QfI,QfI,Int.sub_zero]at h1
    rcases QhG.1 h1.symm with h2 | h2
    ·exact hb2 h2
    exact h.red.ne (pv e) (Qv.2 ⟨e,he,rfl⟩) h2)
  have hkn:Qb1 (m.map fun e=>(e.1,Qa6 n e.2 y q)) (q:Int)=none:=Qt3 (by
   intro hm;apply hkq
   simpa [Qda,Function.comp_def] using hm)
  have hset:(QbR ltI (m.map fun e=>(e.1,Qa6 n e.2 y q)) (q:Int) y).Perm (((q:Int),y)::m.map fun e=>(e.1,Qa6 n e.2 y q)):=by
   unfold QbR
   rw [hkn]
   exact mins_perm _ _ _ _
  have hp2:((q,vec y)::rs.map fun u=>(u.1,up u)).Perm ((QbR ltI (m.map fun e=>(e.1,Qa6 n e.2 y q)) (q:Int) y).map pv):=by
   refine List.Perm.trans ?_ (hset.map pv).symm
   rw [Qaw,Qda]
   refine List.Perm.cons _ ?_
   refine(hperm.map fun u=>(u.1,up u)).trans ?_
   rw [Qda]
   refine List.Perm.of_eq (QgL fun e he=>?_)
   show((pv e).1,up (pv e))=pv (e.1,Qa6 n e.2 y q)
   rw [hup e he];rfl
  refine⟨vec row::vs,⟨fun e he=>?_,?_,⟨_,nsys,hp2⟩,?_⟩⟩
  ·rcases Q3.1 (hset.mem_iff.1 he)with rfl | he
   ·exact⟨by simp,by simpa using hqn,r2.len,by simpa using hfirst⟩
   obtain⟨x,hx,rfl⟩:=Qv.1 he
   obtain⟨k1,k2,k3,k4⟩:=h.keys x hx
   refine⟨k1,k2,Qt0 k3,fun j hj=>?_⟩
   have:=(upf x hx).2.2 j hj
   rw [hup x hx]at this
   exact this
  ·rw [←(hp2.map Prod.fst).nodup_iff]
   exact nsys.red.nd
  intro v hv2
  rcases Q3.1 hv2 with rfl | hv2
  ·exact hv
  exact h.mag v hv2
end
end Go.Proofs
noncomputable section
namespace Go.Proofs
open Go Go.RowKit Go.Vm
theorem Qp3 {w:List Int}{p:Nat}(h:p<w.length)(v:Int)(j:Nat):vec (w.set p v) j=if j=p then v else vec w j:=by
 unfold vec
 rw [Qs8,Qs8,List.getElem?_set]
 by_cases e:p=j
 ·subst e;rw [if_pos rfl,if_pos rfl,if_pos h];rfl
 rw [if_neg e,if_neg (fun e2=>e e2.symm)]
def dd (place:Nat)(e:Int×List Int):Nat:=(vec e.2 e.1.toNat).natAbs / Nat.gcd (vec e.2 e.1.toNat).natAbs (vec e.2 place).natAbs
def Qnb (place:Nat)(L:Nat)(T:Qaf):Nat:=T.foldl (fun L e=>Nat.lcm L (dd place e)) L
def Qnc (place L:Nat)(e:Int×List Int):Int:=Int.tdiv (-(vec e.2 place)*(L:Int)) (vec e.2 e.1.toNat)
def Qgn (place L:Nat)(w:List Int)(T:Qaf):List Int:=T.foldl (fun w e=>w.set e.1.toNat (Qnc place L e)) w
section
variable {n:Nat}{vs:List Vec}{m:Qaf}
theorem Slv.ne (h:Slv n vs m){e:Int×List Int}(he:e∈m):vec e.2 e.1.toNat≠0:=h.red.ne (pv e) (Qv.2 ⟨e,he,rfl⟩)
theorem Slv.det (h:Slv n vs m)(hn:n≤8):∃D:Nat,0<D∧D≤2642411520∧∀e∈m,(vec e.2 e.1.toNat).natAbs ∣ D:=by
 obtain⟨rs,hs,hp⟩:=h.sys
 refine⟨(Vm.det vs (rs.map Prod.fst)).natAbs,Qmi.2 hs.det,?_,fun e he=>?_⟩
 ·refine Qas (QpL vs _ h.mag (by rw [hs.len];simp)) ?_
  have:∀k,k<9→fac k*4 ^ k≤2642411520:=by decide
  exact this _ (by have h1:=h.len;have h2:=h.vlen;omega)
 have hm:pv e∈rs:=hp.mem_iff.2 (Qv.2 ⟨e,he,rfl⟩)
 obtain⟨p,s,hps⟩:=QpO hm
 obtain⟨t,_,t2,_⟩:=hs.cram hps
 rw [t2,QgK]
 exact Nat.dvd_mul_right _ _
theorem QvI (place:Nat)(e:Int×List Int):dd place e ∣ (vec e.2 e.1.toNat).natAbs:=Nat.div_dvd_of_dvd (Nat.gcd_dvd_left _ _)
theorem Qxi {a b:Nat}(ha:0<a):a / Nat.gcd a b*b=Nat.lcm a b:=by
 have hg:0<Nat.gcd a b:=Qrn _ ha
 obtain⟨k,hk⟩:=Nat.gcd_dvd_left a b
 unfold Nat.lcm
 generalize Nat.gcd a b=g at *
 subst hk
 rw [QpT _ hg,Nat.mul_assoc,QpT _ hg]
theorem Qxj (h:Slv n vs m)(hn:n≤8){place:Nat}(hpl:place<n){D:Nat}(hD:0<D)(hD2:D≤2642411520)(hd:∀e∈m,(vec e.2 e.1.toNat).natAbs ∣ D):∀(T:Qaf) (L:Nat),(∀e∈T,e∈m)→0<L→L ∣ D→
  Qb2 (fun st p=>Qau (place:Int) st p.1 p.2) (L:Int) T=some (.inl (Qnb place L T:Int))∧0<Qnb place L T∧Qnb place L T ∣ D
 | [],L,_,h1,h2=>⟨rfl,h1,h2⟩
 | e::T,L,hT,h1,h2=>by
  have he:=hT e Q8
  obtain⟨k1,k2,k3,k4⟩:=h.keys e he
  have hL:=Nat.le_of_dvd hD h2
  have ma:=h.le hn he e.1.toNat
  have mb:=h.le hn he place
  have hne:=h.ne he
  have ddv:dd place e ∣ D:=Nat.dvd_trans (QvI place e) (hd e he)
  have ddp:0<dd place e:=Nat.pos_of_dvd_of_pos (QvI place e) (Qmi.2 hne)
  have hlc:Nat.lcm L (dd place e) ∣ D:=Nat.lcm_dvd h2 ddv
  have hlp:0<Nat.lcm L (dd place e):=Nat.lcm_pos h1 ddp
  have hll:=Nat.le_of_dvd hD hlc
  have step:Qau (place:Int) (L:Int) e.1 e.2=some (.inl (Nat.lcm L (dd place e):Int)):=by
   unfold Qau
   rw [k1,Q2,Qca (by omega),Qr,Qr,Q2,Qca (by omega),Qr]
   have hdd:(vec e.2 e.1.toNat).natAbs / Nat.gcd (vec e.2 e.1.toNat).natAbs (vec e.2 place).natAbs=dd place e:=rfl
   generalize vec e.2 e.1.toNat=a at *
   generalize vec e.2 place=b at *
   have hg:0<Nat.gcd a.natAbs b.natAbs:=Qrn _ (Qmi.2 hne)
   rw [QtX (show Sm a by unfold Sm;omega) (show Sm b by unfold Sm;omega),Qr,Qie (by simp;omega),Qr]
   have da:(Int.tdiv a (Nat.gcd a.natAbs b.natAbs:Int)).natAbs=dd place e:=by
    rw [Int.natAbs_tdiv];exact hdd
   generalize Int.tdiv a (Nat.gcd a.natAbs b.natAbs:Int)=d at *
   have dl:=Nat.le_of_dvd hD ddv
   have wd:w64 d=d:=Qba (by omega)
   have wn:w64 (0-d)=-d:=by rw [Qba (by omega)];omega
   rw [wd,QtX (show Sm (L:Int) by unfold Sm;omega) (show Sm d by unfold Sm;omega),Qr]
   have e1:(L:Int).natAbs=L:=rfl
   rw [e1,da]
   have hg2:0<Nat.gcd L (dd place e):=Qrn _ h1
   rw [Qie (by simp;omega),Qr,wn]
   have e2:max2 d (-d)=(dd place e:Int):=by rw [←da];unfold max2;split<;>omega
   have e3:Int.tdiv (L:Int) (Nat.gcd L (dd place e):Int)=((L / Nat.gcd L (dd place e):Nat):Int):=(Int.ofNat_tdiv _ _).symm
   have e4:=Qxi (b:=dd place e) h1
   have le1:L / Nat.gcd L (dd place e)≤L:=Nat.div_le_self _ _
   have w1:w64 ((L / Nat.gcd L (dd place e):Nat):Int)=((L / Nat.gcd L (dd place e):Nat):Int):=by
    generalize L / Nat.gcd L (dd place e)=u at le1 ⊢
    exact Qba (by omega)
   have w2:w64 ((Nat.lcm L (dd place e):Nat):Int)=((Nat.lcm L (dd place e):Nat):Int):=by
    generalize Nat.lcm L (dd place e)=u at hll ⊢
    exact Qba (by omega)
   rw [e2,e3,w1,←Int.natCast_mul,e4,w2]
  have ih:=Qxj h hn hpl hD hD2 hd T (Nat.lcm L (dd place e)) (fun x hx=>hT x (Qar _ hx)) hlp hlc
  refine⟨?_,ih.2⟩
  rw [Qb2]
  show(Qau (place:Int) (L:Int) e.1 e.2).bind _=_
  rw [step,Qr]
  exact ih.1
theorem Qov {place:Nat}:∀(T:Qaf) (L:Nat),L ∣ Qnb place L T∧∀e∈T,dd place e ∣ Qnb place L T
 | [],L=>⟨Nat.dvd_refl _,fun e h=>by cases h⟩
 | x::T,L=>by
  have ih:=Qov (place:=place) T (Nat.lcm L (dd place x))
  refine⟨Nat.dvd_trans (Nat.dvd_lcm_left _ _) ih.1,fun e he=>?_⟩
  rcases Q3.1 he with rfl | he
  ·exact Nat.dvd_trans (Nat.dvd_lcm_right _ _) ih.1
  exact ih.2 e he
theorem Qxk (h:Slv n vs m)(hn:n≤8){place:Nat}(hpl:place<n){L:Nat}(hL:L≤2642411520):∀(T:Qaf) (w:List Int),(∀e∈T,e∈m)→w.length=n→
  Qb2 (fun st p=>Qav (place:Int) (L:Int) st p.1 p.2) w T=some (.inl (Qgn place L w T))
 | [],w,_,_=>rfl
 | e::T,w,hT,hw=>by
  have he:=hT e Q8
  obtain⟨k1,k2,k3,k4⟩:=h.keys e he
  have ma:=h.le hn he e.1.toNat
  have mb:=h.le hn he place
  have hne:=h.ne he
  have step:Qav (place:Int) (L:Int) w e.1 e.2=some (.inl (w.set e.1.toNat (Qnc place L e))):=by
   unfold Qav Qnc
   rw [Q2,Qca (by omega),Qr,k1,Q2,Qca (by omega),Qr,Qmj]
   have hwk:idx w (e.1.toNat:Int)=some (vec w e.1.toNat):=by rw [Q2,Qca (by omega)]
   rw [hwk]
   generalize vec e.2 e.1.toNat=a at *
   generalize vec e.2 place=b at *
   have pr:((-b)*(L:Int)).natAbs≤82575360*2642411520:=by
    rw [QgK];exact QnQ (by omega) (by omega)
   rw [Qie (by simpa using hne),Qr,Qr]
   have e0:(0:Int)-b=-b:=by omega
   rw [e0,Qba (n:=-b) (by omega),Qba (n:=-b*(L:Int)) (by omega)]
   have e5:(Int.tdiv (-b*(L:Int)) a).natAbs≤82575360*2642411520:=by
    rw [Int.natAbs_tdiv];exact Qas (Nat.div_le_self _ _) pr
   rw [Qba (n:=Int.tdiv (-b*(L:Int)) a) (by omega)]
  have ih:=Qxk h hn hpl hL T (w.set e.1.toNat (Qnc place L e)) (fun x hx=>hT x (Qar _ hx)) (by rw [List.length_set];exact hw)
  rw [Qb2]
  show(Qav (place:Int) (L:Int) w e.1 e.2).bind _=_
  rw [step,Qr]
  exact ih
theorem Qow {place L:Nat}:∀(T:Qaf) (w:List Int),(Qgn place L w T).length=w.length
 | [],w=>rfl
 | e::T,w=>by
  show(Qgn place L (w.set e.1.toNat (Qnc place L e)) T).length=_
  rw [Qow T,List.length_set]
theorem Qj8 {place L:Nat}{j:Nat}:∀(T:Qaf) (w:List Int),(∀e∈T,e.1.toNat<w.length∧e.1.toNat≠j)→vec (Qgn place L w T) j=vec w j
 | [],w,_=>rfl
 | e::T,w,h=>by
  show vec (Qgn place L (w.set e.1.toNat (Qnc place L e)) T) j=_
  obtain⟨h1,h2⟩:=h e Q8
  rw [Qj8 T _ fun x hx=>by rw [List.length_set];exact h x (Qar _ hx),Qp3 h1,if_neg (fun e2=>h2 e2.symm)]
theorem Qp4 {place L:Nat}{e:Int×List Int}:∀(T:Qaf) (w:List Int),(∀x∈T,x.1.toNat<w.length)→(T.map fun x=>x.1.toNat).Nodup→e∈T→vec (Qgn place L w T) e.1.toNat=Qnc place L e
 | [],w,_,_,h=>by cases h
 | x::T,w,h,hn,he=>by
  rw [Qaw,QbW]at hn
  show vec (Qgn place L (w.set x.1.toNat (Qnc place L x)) T) e.1.toNat=_
  have h2:∀y∈T,y.1.toNat<(w.set x.1.toNat (Qnc place L x)).length:=fun y hy=>by rw [List.length_set];exact h y (Qar _ hy)
  rcases Q3.1 he with e2 | he
  ·subst e2
   rw [Qj8 T _ fun y hy=>⟨h2 y hy,fun e3=>hn.1 (Qv.2 ⟨y,hy,e3⟩)⟩,Qp3 (h e Q8),if_pos rfl]
  exact Qp4 T _ h2 hn.2 he
theorem Slv.tnd (h:Slv n vs m){A:Qaf}(hA:A.Perm m):(A.map fun x=>x.1.toNat).Nodup:=by
 have:=Quv h hA
 simpa [Qda,Function.comp_def,pv] using this
theorem QwG (h:Slv n vs m)(hn:n≤8){place:Nat}(hpl:place<n)(hfree:(place:Int) ∉ m.map Prod.fst):
  ∃(w:List Int) (L:Nat),Qbt (n:Int) m (place:Int)=some w∧w.length=n∧0<L∧L≤2642411520∧vec w place=(L:Int)∧(∀j,j≠place→(∀e∈m,e.1.toNat≠j)→vec w j=0)∧
   ∀e∈m,vec w e.1.toNat*vec e.2 e.1.toNat=-(vec e.2 place)*(L:Int):=by
 obtain⟨D,hD,hD2,hd⟩:=h.det hn
 have g1:=fun (A:Qaf) (hA:A.Perm m)=>Qxj h hn hpl hD hD2 hd A 1 (fun e he=>hA.mem_iff.1 he) (by omega) (Nat.one_dvd _)
 have lp:∀A:Qaf,A.Perm m→Qnb place 1 A=Qnb place 1 m:=fun A hA=>by
  have a1:=Qov (place:=place) A 1
  have a2:=Qov (place:=place) m 1
  have up:∀(T:Qaf) (L K:Nat),L ∣ K→(∀e∈T,dd place e ∣ K)→Qnb place L T ∣ K:=by
   intro T
   induction T with
   | nil=>intro L K h1 _;exact h1
   | cons x T ih=>intro L K h1 h2;exact ih _ K (Nat.lcm_dvd h1 (h2 x Q8)) fun e he=>h2 e (Qar _ he)
  exact Nat.dvd_antisymm (up A 1 _ (Nat.one_dvd _) fun e he=>a2.2 e (hA.mem_iff.1 he)) (up m 1 _ (Nat.one_dvd _) fun e he=>a1.2 e (hA.mem_iff.2 he))
 have r1:Qdw (fun st p=>Qau (place:Int) st p.1 p.2) 1 m=some (.inl (Qnb place 1 m:Int)):=
  QhJ.2 ⟨fun l' hl'=>by
   have x1:=(g1 l' hl').1
   have x2:=(g1 m (List.Perm.refl _)).1
   rw [lp l' hl']at x1
   exact x1.trans x2.symm,(g1 m (List.Perm.refl _)).1⟩
 obtain⟨_,Lp,Ld⟩:=g1 m (List.Perm.refl _)
 have hdvd:=(Qov (place:=place) m 1).2
 generalize Qnb place 1 m=L at *
 have LL:=Nat.le_of_dvd hD Ld
 have wl:((List.replicate (n:Int).toNat (0:Int)).set place (L:Int)).length=n:=by simp
 have w0:∀j,vec ((List.replicate (n:Int).toNat (0:Int)).set place (L:Int)) j=if j=place then(L:Int)else 0:=fun j=>by
  rw [Qp3 (by simpa using hpl)]
  have z:vec (List.replicate (n:Int).toNat (0:Int)) j=0:=by
   by_cases hj:j<n
   ·rw [QeU (by simpa using hj)];simp
   exact QeE (by simp;omega)
  rw [z]
 have kl:∀A:Qaf,A.Perm m→∀e∈A,e.1.toNat<((List.replicate (n:Int).toNat (0:Int)).set place (L:Int)).length:=fun A hA e he=>by
  rw [wl];exact(h.keys e (hA.mem_iff.1 he)).2.1
 have sp:∀A:Qaf,A.Perm m→Qgn place L ((List.replicate (n:Int).toNat (0:Int)).set place (L:Int)) A=Qgn place L ((List.replicate (n:Int).toNat (0:Int)).set place (L:Int)) m:=fun A hA=>by
  refine QsC (by rw [Qow,Qow]) fun j=>?_
  by_cases hj:∃e∈m,e.1.toNat=j
  ·obtain⟨e,he,rfl⟩:=hj
   rw [Qp4 A _ (kl A hA) (h.tnd hA) (hA.mem_iff.2 he),Qp4 m _ (kl m (List.Perm.refl _)) (h.tnd (List.Perm.refl _)) he]
  rw [Qj8 A _ fun e he=>⟨kl A hA e he,fun e2=>hj ⟨e,hA.mem_iff.1 he,e2⟩⟩,Qj8 m _ fun e he=>⟨kl m (List.Perm.refl _) e he,fun e2=>hj ⟨e,he,e2⟩⟩]
 have g2:=fun (A:Qaf) (hA:A.Perm m)=>Qxk h hn hpl (L:=L) (by omega) A ((List.replicate (n:Int).toNat (0:Int)).set place (L:Int)) (fun e he=>hA.mem_iff.1 he) wl
 have r2:Qdw (fun st p=>Qav (place:Int) (L:Int) st p.1 p.2) ((List.replicate (n:Int).toNat (0:Int)).set place (L:Int)) m=some (.inl (Qgn place L ((List.replicate (n:Int).toNat (0:Int)).set place (L:Int)) m)):=
  QhJ.2 ⟨fun l' hl'=>by rw [g2 l' hl',g2 m (List.Perm.refl _),sp l' hl'],g2 m (List.Perm.refl _)⟩
 have hkp:∀e∈m,e.1.toNat≠place:=fun e he e2=>hfree (Qv.2 ⟨e,he,by rw [(h.keys e he).1,e2]⟩)
 refine⟨Qgn place L ((List.replicate (n:Int).toNat (0:Int)).set place (L:Int)) m,L,?_,by rw [Qow];exact wl,Lp,by omega,?_,?_,?_⟩
 ·unfold Qbt
  rw [r1,Qr]
  show Qbq (n:Int) (place:Int) m (L:Int)=_
  unfold Qbq
  rw [Qie (by simp;omega),Qr,Q2,Qca (by simpa using hpl),Qr,Qmj (n:=place),r2]
  rfl
 ·rw [Qj8 m _ fun e he=>⟨kl m (List.Perm.refl _) e he,hkp e he⟩,w0,if_pos rfl]
 ·intro j hj hk
  rw [Qj8 m _ fun e he=>⟨kl m (List.Perm.refl _) e he,hk e he⟩,w0,if_neg hj]
 intro e he
 rw [Qp4 m _ (kl m (List.Perm.refl _)) (h.tnd (List.Perm.refl _)) he]
 unfold Qnc
 refine Int.tdiv_mul_cancel (Int.natAbs_dvd_natAbs.1 ?_)
 rw [QgK,Int.natAbs_neg]
 obtain⟨x,hx⟩:=hdvd e he
 show _ ∣ _*L
 rw [hx]
 unfold dd
 obtain⟨b,hb⟩:=Nat.gcd_dvd_right (vec e.2 e.1.toNat).natAbs (vec e.2 place).natAbs
 obtain⟨a,ha⟩:=Nat.gcd_dvd_left (vec e.2 e.1.toNat).natAbs (vec e.2 place).natAbs
 have hg:0<Nat.gcd (vec e.2 e.1.toNat).natAbs (vec e.2 place).natAbs:=Qrn _ (Qmi.2 (h.ne he))
 generalize Nat.gcd (vec e.2 e.1.toNat).natAbs (vec e.2 place).natAbs=g at *
 rw [ha,hb,QpT _ hg]
 exact⟨b*x,by simp [Nat.mul_assoc,Qkd,Nat.mul_left_comm]⟩
end
end Go.Proofs
noncomputable section
namespace Go.Proofs
open Go Go.RowKit Go.Vm
def Qig (x:Int):Bool:=decide (4<max2 x (w64 (0-x)))
theorem Qun {x:Int}(hx:-32≤x∧x≤32)(h:Qig x=false):x.natAbs≤4:=by
 unfold Qig at h
 rw [Qba (by omega),Qb7]at h
 unfold max2 at h
 split at h<;>omega
theorem Quo {e:List Int}(hl:e.length≤maxLen):QfS e=some (e.any Qig):=by
 unfold QfS Qb3 Qcz
 rw [QpJ (l:=e) Qig (fun i x hi hx=>by
  show Q6 e i=_
  unfold Q6
  rw [Qcn (by omega),cond_true,Q2,hx,Qr,show Qht x=some (Qig x)from rfl,Qr,QB hi hl]
  cases Qig x<;>rfl) (by
  show Q6 e e.length=_
  unfold Q6
  rw [Qcm (by omega),cond_false]),←QtT]
 cases Qcj (fun _ x=>Qig x) 0 e<;>rfl
theorem Qup {l:List (List Int)}(hl:l.length≤maxLen)(he:∀e∈l,e.length≤maxLen):Qbz l=some (l.any fun e=>e.any Qig):=by
 unfold Qbz Qdr
 rw [QpJ (l:=l) (fun e=>e.any Qig) (fun i x hi hx=>by
  show Qaq l i=_
  unfold Qaq
  rw [Qcn (by omega),cond_true,Q2,hx,Qr,Quo (he x (Qaj hx)),Qr,QB hi hl]
  cases (x.any Qig)<;>rfl) (by
  show Qaq l l.length=_
  unfold Qaq
  rw [Qcm (by omega),cond_false]),←QtT]
 cases Qcj (fun _ e=>e.any Qig) 0 l<;>rfl
theorem Slv.nil (n:Nat):Slv n [] []:=by
 have r:Red []:=⟨List.nodup_nil,(fun q h=>by cases h),(fun q h=>by cases h)⟩
 have s:Qj7 [] []:=⟨r,(fun q h=>by cases h),(fun q h=>by cases h),by decide,rfl⟩
 exact⟨(fun q h=>by cases h),List.nodup_nil,⟨[],s,List.Perm.refl _⟩,(fun v h=>by cases h)⟩
structure Qlh (N:Nat) (m:Qaf) (p:Nat) (w:List Int):Prop where
 lt:p<N
 fr:(p:Int) ∉ m.map Prod.fst
 len:w.length=N
 pos:0<vec w p
 out:∀j,j≠p→(∀e∈m,e.1.toNat≠j)→vec w j=0
 hi:∀j,p<j→vec w j=0
 piv:∃L:Nat,0<L∧L≤2642411520∧vec w p=(L:Int)∧∀e∈m,vec w e.1.toNat*vec e.2 e.1.toNat=-(vec e.2 p)*(L:Int)
theorem Qwl {n:Nat}{vs:List Vec}{m:Qaf}(h:Slv n vs m)(hn:n≤8){p:Nat}(hp:p<n)(hf:(p:Int) ∉ m.map Prod.fst):∃w,Qbt (n:Int) m (p:Int)=some w∧Qlh n m p w:=by
 obtain⟨w,L,h1,h2,h3,h4,h5,h6,h7⟩:=QwG h hn hp hf
 refine⟨w,h1,hp,hf,h2,by omega,h6,fun j hj=>?_,L,h3,h4,h5,h7⟩
 by_cases hk:∃e∈m,e.1.toNat=j
 ·obtain⟨e,he,rfl⟩:=hk
  have:=h7 e he
  rw [(h.keys e he).2.2.2 p hj]at this
  have h0:vec w e.1.toNat*vec e.2 e.1.toNat=0:=by rw [this];simp
  exact(QhG.1 h0).resolve_right (h.ne he)
 exact h6 j (by omega) fun e he e2=>hk ⟨e,he,e2⟩
theorem QwH {m:Qaf}{k:Int}(h:Qb1 m k=none):k ∉ m.map Prod.fst:=by
 induction m with
 | nil=>intro hm;cases hm
 | cons e m ih=>
  obtain⟨a,x⟩:=e
  rw [Qpw]at h
  by_cases ha:a=k
  ·rw [if_pos ha]at h;cases h
  rw [if_neg ha]at h
  intro hm
  rcases Q3.1 hm with hm | hm
  ·exact ha hm.symm
  exact ih h hm
def QwI (N:Nat)(r:List (List Int)×Int):Prop:=(r.2=2∧r.1=[])∨(r.2=0∧N≤8∧∃(vs:List Vec) (m:Qaf) (ps:List Nat),Slv N vs m∧List.Pairwise (fun a b:Nat=>a<b) ps∧ps.length=r.1.length∧∀(i p:Nat) (w:List Int),ps[i]? = some p→r.1[i]? = some w→Qlh N m p w)
theorem QwJ {n:Qm}{e:List Int}(h:Eff n 32 e)(hg:e.any Qig=false):∀j,(vec e j).natAbs≤4:=fun j=>by
 by_cases hj:j<e.length
 ·rw [QeU hj]
  have h1:=List.any_eq_false.1 hg _ (Qei hj)
  exact Qun (h.2 _ (Qei hj)) (by simpa using h1)
 rw [QeE (by omega)];simp
theorem Qu5 (n:Qm)(h:Qtg n)(hp:n.Places.length≤12)(ht:n.Tasks.length≤8):Qg (Qds n) (QwI n.Places.length):=by
 have m1:(2048:Nat)≤maxLen:=by decide
 unfold Qds
 refine T0 (QtS n hp ht) fun x6 h6=>?_
 have l6:x6.length≤2048:=by have:=h6.1;omega
 unfold Qlz
 by_cases h8:n.Places.length≤8
 ·rw [Qcm (show ¬(8:Int)<(n.Places.length:Int) by omega),cond_false,Qup (by omega) (fun e he=>by have:=(h6.2 e he).1;omega),Qr,Qr]
  unfold Qd0
  cases hg:(x6.any fun e=>e.any Qig)with
  | true=>exact T2 (.inl ⟨rfl,rfl⟩)
  | false=>
   rw [cond_false]
   have mag:∀e∈x6,∀j,(vec e j).natAbs≤4:=fun e he=>QwJ (h6.2 e he) (by
    have:=List.any_eq_false.1 hg e he
    simpa using this)
   have s1:=QgF (body:=fun st:Int×Qaf=>Qb4 x6 n st.1 st.2) x6.length (fun i s=>s.1=(i:Int)∧∃vs,Slv n.Places.length vs s.2) (fun r=>∃vs,Slv n.Places.length vs r) (fun i s hi hs=>by
    obtain⟨a,m⟩:=s
    obtain⟨rfl,vs,hv⟩:=hs
    left
    have hx:x6[i]? = some x6[i]:=QH hi
    have hmem:=Qei hi
    show ∃s',Qb4 x6 n (i:Int) m=_∧_
    unfold Qb4
    obtain⟨g1,vs',g2⟩:=QvH hv h8 (h6.2 _ hmem).1 (mag _ hmem)
    rw [Qcn (show(i:Int)<(x6.length:Int) by omega),cond_true,Q2,hx,Qr,g1,Qr]
    exact⟨_,rfl,QB hi (by omega),vs',g2⟩) (fun s hs=>by
    obtain⟨a,m⟩:=s
    obtain⟨rfl,vs,hv⟩:=hs
    refine⟨m,?_,vs,hv⟩
    show Qb4 x6 n (x6.length:Int) m=_
    unfold Qb4
    rw [Qcm (by omega)];rfl) (0,[]) ⟨rfl,[],Slv.nil _⟩
   obtain⟨m18,hm18,vs1,hv1⟩:=s1
   rw [hm18,Qr]
   unfold Qi4
   refine T0 (QtU n h ht) fun x23 h23=>?_
   have s2:=QgF (body:=fun st:Int×Qaf=>Qb5 x23 n st.1 st.2) x23.length (fun i s=>s.1=(i:Int)∧∃vs,Slv n.Places.length vs s.2) (fun r=>∃vs,Slv n.Places.length vs r) (fun i s hi hs=>by
    obtain⟨a,m⟩:=s
    obtain⟨rfl,vs,hv⟩:=hs
    left
    have hx:x23[i]? = some x23[i]:=QH hi
    obtain⟨k0,k1⟩:=h23.2 _ (Qei hi)
    show ∃s',Qb5 x23 n (i:Int) m=_∧_
    unfold Qb5
    have kk:x23[i]=((x23[i].toNat:Nat):Int):=by omega
    have kl:x23[i].toNat<(List.replicate (n.Places.length:Int).toNat (0:Int)).length:=by simp;omega
    obtain⟨g1,vs',g2⟩:=QvH hv h8 (row:=(List.replicate (n.Places.length:Int).toNat (0:Int)).set x23[i].toNat 1) (by simp) (fun j=>by
     rw [Qp3 kl]
     split
     ·decide
     have:vec (List.replicate (n.Places.length:Int).toNat (0:Int)) j=0:=by
      by_cases hj:j<n.Places.length
      ·rw [QeU (by simpa using hj)];simp
      exact QeE (by simp;omega)
     rw [this];decide)
    have hidx:idx (List.replicate (n.Places.length:Int).toNat (0:Int)) x23[i]=some 0:=by
     rw [Qsw k0,QH kl];simp
    rw [Qcn (show(i:Int)<(x23.length:Int) by omega),cond_true,Q2,hx,Qr,Qie (by simp;omega),Qr,hidx,Qr]
    have e2:∀(s1:Int) (m2:Qaf) (row:List Int),Qfv s1 m2 row=Qc7 s1 m2 row:=fun _ _ _=>rfl
    rw [e2,g1,Qr]
    exact⟨_,rfl,QB hi (by have:=h23.1;omega),vs',g2⟩) (fun s hs=>by
    obtain⟨a,m⟩:=s
    obtain⟨rfl,vs,hv⟩:=hs
    refine⟨m,?_,vs,hv⟩
    show Qb5 x23 n (x23.length:Int) m=_
    unfold Qb5
    rw [Qcm (by omega)];rfl) (0,m18) ⟨rfl,vs1,hv1⟩
   obtain⟨m29,hm29,vs2,hv2⟩:=s2
   rw [hm29,Qr]
   unfold QdZ
   have s3:=QgF (body:=fun st:Int×List (List Int)=>Qah n m29 st.1 st.2) n.Places.length (fun i s=>s.1=(i:Int)∧s.2.length≤i∧∃ps:List Nat,List.Pairwise (fun a b:Nat=>a<b) ps∧(∀p∈ps,p<i)∧ps.length=s.2.length∧∀(k p:Nat) (w:List Int),ps[k]? = some p→s.2[k]? = some w→Qlh n.Places.length m29 p w)
    (fun r=>∃ps:List Nat,List.Pairwise (fun a b:Nat=>a<b) ps∧ps.length=r.length∧∀(k p:Nat) (w:List Int),ps[k]? = some p→r[k]? = some w→Qlh n.Places.length m29 p w) (fun i s hi hs=>by
    obtain⟨a,l⟩:=s
    obtain⟨rfl,hl,ps,p1,p2,p3,p4⟩:=hs
    have hl:l.length≤i:=hl
    have p3:ps.length=l.length:=p3
    have p4:∀(k p:Nat) (w:List Int),ps[k]? = some p→l[k]? = some w→Qlh n.Places.length m29 p w:=p4
    left
    show ∃s',Qah n m29 (i:Int) l=_∧_
    unfold Qah QfU
    rw [Qcn (show(i:Int)<(n.Places.length:Int) by omega),cond_true,QB hi (by omega)]
    cases hg:Qb1 m29 (i:Int)with
    | some row=>
     have hrow:row.length=n.Places.length:=(hv2.keys _ (Qn1 hg)).2.2.1
     have hne:(!((some row).getD ([]:List Int)).isEmpty)=true:=by
      cases row with
      | nil=>simp at hrow;omega
      | cons _ _=>rfl
     rw [show(some row).isSome=true from rfl,cond_true,Qie hne,Qr]
     exact⟨_,rfl,rfl,by show l.length≤i+1;omega,ps,p1,fun p hp=>by have:=p2 p hp;omega,p3,p4⟩
    | none=>
     obtain⟨w,w1,w2⟩:=Qwl hv2 h8 hi (QwH hg)
     rw [show(none:Option (List Int)).isSome=false from rfl,cond_false,w1,Qr,Qtf (by simp;omega),Qr]
     refine⟨_,rfl,rfl,by show(l++[w]).length≤i+1;simp;omega,ps++[i],?_,?_,by show(ps++[i]).length=(l++[w]).length;simp [p3],?_⟩
     ·rw [List.pairwise_append]
      exact⟨p1,List.pairwise_singleton _ _,fun a ha b hb=>by rw [Qmp]at hb;have:=p2 a ha;omega⟩
     ·intro p hp
      rcases QeG.1 hp with hp | hp
      ·have:=p2 p hp;omega
      rw [Qmp]at hp;omega
     intro k p x hk hx
     have hx:(l++[w])[k]? = some x:=hx
     by_cases hlt:k<ps.length
     ·rw [Qbk hlt]at hk
      rw [Qbk (by omega)]at hx
      exact p4 k p x hk hx
     rw [Qby (by omega)]at hk
     rw [Qby (by omega)]at hx
     have:k-ps.length=0:=by
      have:=(QE.1 hk).1
      simp at this;omega
     rw [this]at hk
     rw [←p3,this]at hx
     simp at hk hx
     subst hk hx
     exact w2) (fun s hs=>by
    obtain⟨a,l⟩:=s
    obtain⟨rfl,hl,ps,p1,p2,p3,p4⟩:=hs
    refine⟨l,?_,ps,p1,p3,p4⟩
    show Qah n m29 (n.Places.length:Int) l=_
    unfold Qah
    rw [Qcm (by omega)];rfl) (0,[]) ⟨rfl,QbJ _,[],List.Pairwise.nil,(fun p h=>by cases h),rfl,(fun k p w h=>by simp at h)⟩
   obtain⟨out,ho,ps,p1,p3,p4⟩:=s3
   rw [ho,Qr]
   exact T2 (.inr ⟨rfl,h8,vs2,m29,ps,hv2,p1,p3,p4⟩)
 rw [Qcn (show(8:Int)<(n.Places.length:Int) by omega),cond_true,Qr]
 unfold Qd0
 exact T2 (.inl ⟨rfl,rfl⟩)
end Go.Proofs
noncomputable section
namespace Go.Proofs
open Go Go.RowKit Go.Vm
def Qeg (w:List Int):Nat→Int
 | 0=>-1
 | k+1=>if vec w k=0 then Qeg w k else(k:Int)
theorem QsU {w:List Int}{p:Nat}(h0:vec w p≠0)(hz:∀j,p<j→vec w j=0):∀d,Qeg w (p+1+d)=(p:Int)
 | 0=>by show Qeg w (p+1)=_;rw [Qeg,if_neg h0]
 | d+1=>by
  show Qeg w (p+1+d+1)=_
  rw [Qeg,if_pos (hz _ (by omega)),QsU h0 hz d]
theorem Qu6 {x7:List (List Int)×Int}{i:Nat}{w l:List Int}(hw:x7.1[i]? = some w)(hi:i<l.length)(hm:w.length≤maxLen):
  Qy (fun st=>QaO x7 (i:Int) st.1 st.2) (0,l.set i (-1))=some (l.set i (Qeg w w.length)):=by
 have h:=QgF (body:=fun st:Int×List Int=>QaO x7 (i:Int) st.1 st.2) w.length (fun k s=>s=((k:Int),l.set i (Qeg w k))) (fun r=>r=l.set i (Qeg w w.length)) (fun k s hk hs=>by
  subst hs
  left
  show ∃s',QaO x7 (i:Int) (k:Int) (l.set i (Qeg w k))=_∧_
  unfold QaO QdH
  rw [Q2,hw,Qr,Qcn (show(k:Int)<(w.length:Int) by omega),cond_true,Qr,Q2,Qca hk,Qr,QB hk hm]
  by_cases h0:vec w k=0
  ·rw [h0,show((0:Int) != 0)=false from rfl,cond_false]
   refine⟨_,rfl,?_⟩
   rw [Qeg,if_pos h0]
  ·have e:(vec w k != 0)=true:=by simpa using h0
   rw [e,cond_true,Q2,QH (show i<(l.set i (Qeg w k)).length by rw [List.length_set];exact hi),Qr]
   refine⟨_,rfl,?_⟩
   rw [Qeg,if_neg h0,Qmj,List.set_set]) (fun s hs=>by
  subst hs
  refine⟨_,?_,rfl⟩
  show QaO x7 (i:Int) (w.length:Int) (l.set i (Qeg w w.length))=_
  unfold QaO
  rw [Q2,hw,Qr,Qcm (by omega)];rfl) (0,l.set i (-1)) rfl
 obtain⟨r,hr,rfl⟩:=h
 exact hr
def QbG (ps:List Nat):List Int:=ps.map Int.ofNat
theorem Qr8 {ps:List Nat}{k p:Nat}(h:ps[k]? = some p):(QbG ps)[k]? = some (p:Int):=by simp [QbG,h]
theorem QvJ {n:Qm}(hk:QD n):Qdz n=some true:=by
 unfold Qdz
 rw [Qu3,Qr]
 obtain⟨x5,h5,hfine⟩:=Qw9 n hk
 rw [h5,Qr]
 cases x5 with
 | false=>rfl
 | true=>
  obtain⟨hN,hp,ht⟩:=hfine rfl
  obtain⟨x7,h7,hb⟩:=Qu5 n hN hp ht
  rw [Bool.not_true,cond_false,h7,Qr]
  rcases hb with⟨e1,e2⟩|⟨e1,h8,vs,m,ps,hv,p1,p3,p4⟩
  ·rw [e1,e2];rfl
  have mx:(8:Nat)≤maxLen:=by decide
  have pn:ps.length≤n.Places.length:=by
   refine Qky _ (p1.imp fun h=>Nat.ne_of_lt h) fun p hp=>?_
   obtain⟨i,hi,rfl⟩:=Qmn.1 hp
   exact(p4 i _ _ (QH hi) (QH (by omega))).lt
  have row:∀i,i<x7.1.length→∃p w,ps[i]? = some p∧x7.1[i]? = some w∧Qlh n.Places.length m p w:=fun i hi=>⟨_,_,QH (by omega),QH hi,p4 i _ _ (QH (by omega)) (QH hi)⟩
  rw [e1,show((0:Int) != 0)=false from rfl,cond_false,Qie (by simp;omega),Qr]
  have s1:=QgF (body:=fun st:Int×List Int=>Qbf x7 st.1 st.2) x7.1.length (fun i s=>s=((i:Int),QbG (ps.take i)++List.replicate (x7.1.length-i) 0)) (fun r=>r=.inr (QbG ps)) (fun i s hi hs=>by
   subst hs
   left
   obtain⟨p,w,hpi,hwi,hf⟩:=row i hi
   show ∃s',Qbf x7 (i:Int) _=_∧_
   unfold Qbf
   have ln:(QbG (ps.take i)).length=i:=by simp [QbG];omega
   have ll:(QbG (ps.take i)++List.replicate (x7.1.length-i) (0:Int)).length=x7.1.length:=by rw [QfL,ln,List.length_replicate];omega
   have hr2:List.replicate (x7.1.length-i) (0:Int)=0::List.replicate (x7.1.length-(i+1)) 0:=by
    rw [show x7.1.length-i=(x7.1.length-(i+1))+1 by omega];rfl
   have hla:Qeg w w.length=(p:Int):=by
    have:=QsU (w:=w) (p:=p) (by have:=hf.pos;omega) hf.hi (w.length-(p+1))
    rw [show p+1+(w.length-(p+1))=w.length by have:=hf.lt;have:=hf.len;omega]at this
    exact this
   have hset:(QbG (ps.take i)++List.replicate (x7.1.length-i) (0:Int)).set i (p:Int)=QbG (ps.take (i+1))++List.replicate (x7.1.length-(i+1)) 0:=by
    rw [List.set_append_right _ _ (by omega),ln,Nat.sub_self,hr2,QpS,hpi]
    unfold QbG
    rw [QnO,Qe9];rfl
   rw [Qcn (show(i:Int)<(x7.1.length:Int) by omega),cond_true,Q2,QH (by rw [ll];exact hi),Qr,Qmj,Qu6 hwi (by rw [ll];exact hi) (by rw [hf.len];omega),hla,hset,Qr]
   unfold Qgj
   have gk:∀k q,k≤i→ps[k]? = some q→idx (QbG (ps.take (i+1))++List.replicate (x7.1.length-(i+1)) 0) (k:Int)=some (q:Int):=fun k q hk hq=>by
    have l2:(QbG (ps.take (i+1))).length=i+1:=by simp [QbG];omega
    rw [Q2,Qbk (by omega)]
    refine Qr8 ?_
    rw [List.getElem?_take_of_lt (by omega)];exact hq
   have g3:Qgi (QbG (ps.take (i+1))++List.replicate (x7.1.length-(i+1)) 0) (i:Int) x7=some false:=by
    unfold Qgi
    have gi:=gk i p (QbJ _) hpi
    have hpos:=hf.pos
    rw [gi,Qr,Qcm (show ¬(p:Int)<0 by omega),cond_false,Q2,hwi,Qr,Qr,Q2,Qca (by rw [hf.len];exact hf.lt),Qr,Qcm (show ¬vec w p<1 by omega),cond_false]
    by_cases h0:i=0
    ·subst h0;rfl
    have hj:i-1<ps.length:=by omega
    have gj:=gk (i-1) ps[i-1] (by omega) (QH hj)
    have ew:w64 ((i:Int)-1)=((i-1:Nat):Int):=by rw [Qba (by omega)];omega
    rw [Qcn (show(0:Int)<(i:Int) by omega),cond_true,Qr,ew,gj,Qr]
    have hlt:ps[i-1]<p:=by
     have hi2:i<ps.length:=by omega
     have e4:p=ps[i]:=by rw [QH hi2]at hpi;exact(Option.some.inj hpi).symm
     rw [e4]
     exact List.pairwise_iff_getElem.1 p1 (i-1) i hj hi2 (by omega)
    rw [Qcm (by omega)]
   rw [g3,Qr]
   unfold QdI
   exact⟨_,rfl,by rw [QB hi (by omega)]⟩) (fun s hs=>by
   subst hs
   refine⟨_,?_,rfl⟩
   show Qbf x7 (x7.1.length:Int) _=_
   unfold Qbf
   rw [Qcm (by omega),Qkb (by omega)];simp) (0,List.replicate (x7.1.length:Int).toNat 0) (by simp [QbG])
  obtain⟨r,hr,rfl⟩:=s1
  rw [hr,Qr]
  show Qdo x7 true n (QbG ps)=_
  unfold Qdo
  have s2:=QgF (body:=fun st:Int=>Qa5 x7 (QbG ps) st) x7.1.length (fun i s=>s=(i:Int)) (fun r=>r=.inr ()) (fun i s hi hs=>by
   subst hs
   left
   obtain⟨p,w,hpi,hwi,hf⟩:=row i hi
   show ∃s',Qa5 x7 (QbG ps) (i:Int)=_∧_
   unfold Qa5
   have s3:=QgF (body:=fun st:Int=>Qa4 x7 (i:Int) (QbG ps) st) x7.1.length (fun k s=>s=(k:Int)) (fun r=>r=.inr ()) (fun k s hk hs=>by
    subst hs
    left
    obtain⟨q,u,hqk,huk,hfk⟩:=row k hk
    show ∃s',Qa4 x7 (i:Int) (QbG ps) (k:Int)=_∧_
    unfold Qa4
    have g8:Qgk (k:Int) (i:Int) x7 (QbG ps)=some false:=by
     unfold Qgk
     by_cases e:k=i
     ·subst e
      rw [show((k:Int) != (k:Int))=false by simp];rfl
     rw [show((k:Int) != (i:Int))=true by simp;omega,cond_true,Q2,hwi,Qr,Q2,Qr8 hqk,Qr,Q2,Qca (by rw [hf.len];exact hfk.lt),Qr]
     have hqp:q≠p:=fun e2=>by
      have i1:i<ps.length:=by omega
      have k1:k<ps.length:=by omega
      have ep:p=ps[i]:=by rw [QH i1]at hpi;exact(Option.some.inj hpi).symm
      have eq:q=ps[k]:=by rw [QH k1]at hqk;exact(Option.some.inj hqk).symm
      rcases QcS k i with h1 | h1
      ·have:=List.pairwise_iff_getElem.1 p1 k i k1 i1 h1;omega
      have:=List.pairwise_iff_getElem.1 p1 i k i1 k1 (by omega);omega
     have:vec w q=0:=hf.out q hqp fun e he e2=>hfk.fr (Qv.2 ⟨e,he,by rw [(hv.keys e he).1,e2]⟩)
     rw [this];rfl
    rw [Qcn (show(k:Int)<(x7.1.length:Int) by omega),cond_true,g8,Qr]
    exact⟨_,rfl,QB hk (by omega)⟩) (fun s hs=>by
    subst hs
    refine⟨_,?_,rfl⟩
    show Qa4 x7 (i:Int) (QbG ps) (x7.1.length:Int)=_
    unfold Qa4
    rw [Qcm (by omega)];rfl) 0 rfl
   obtain⟨r,hr,rfl⟩:=s3
   rw [Qcn (show(i:Int)<(x7.1.length:Int) by omega),cond_true,hr,Qr]
   exact⟨_,rfl,QB hi (by omega)⟩) (fun s hs=>by
   subst hs
   refine⟨_,?_,rfl⟩
   show Qa5 x7 (QbG ps) (x7.1.length:Int)=_
   unfold Qa5
   rw [Qcm (by omega)];rfl) 0 rfl
  obtain⟨r,hr,rfl⟩:=s2
  rw [hr,Qr]
  show Qdn true x7 n=_
  unfold Qdn
  rw [Qcn (by omega)];rfl
end Go.Proofs
