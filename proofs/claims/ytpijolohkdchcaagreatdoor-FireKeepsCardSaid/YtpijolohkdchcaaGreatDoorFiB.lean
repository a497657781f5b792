/- A part of the proof; what it holds is told at each theorem. -/
import Derived.Test.YtpijolohkdchcaaGreatDoorFiA
import Derived.Test.YtpijolohkdchcaaGreatDoorTotN
set_option linter.unusedVariables false
set_option linter.unusedSimpArgs false
set_option linter.unusedSectionVars false
set_option linter.deprecated false
noncomputable section
namespace Go.Proofs
open Go Go.RowKit Go.Vm
theorem QsM : ∀(n:Nat) (e:Qf) (d:Int),QcK e→SizeOf.sizeOf e≤n→TotP (Qd6 n e d) fun _=>True
 | 0,e,_,_,h=>absurd e.pos (by omega)
 | n+1,e,d,he,h=>by
  unfold Qd6 Qi7
  refine TotP.bif (fun _=>TotP.okT) fun _=>?_
  refine TotP.bind (TotP.up e.Kids.length (fun st=>st.2) (fun _=>True) (Q:=fun _=>True) rfl trivial (fun i st hi hn _=>?_)) (fun q _=>?_)
  ·obtain⟨a,x⟩:=st
   replace hi:x=(i:Int):=hi
   show TotP (QeC e (Qd6 n) d a x) _
   unfold QeC
   refine TotP.bif (fun hc=>?_) (fun hc=>TotP.ok (Qm trivial))
   simp only [decide_eq_true_eq]at hc
   refine TotP.bind (TotP.idx (by omega) (by omega)) fun k hk=>?_
   have:=QoD hk
   refine TotP.bind (QsM n k _ ((QdM he).2 k hk) (by omega)) fun y _=>?_
   refine TotP.bif (fun _=>TotP.ok (Qm trivial)) fun _=>TotP.bif (fun _=>TotP.ok (Qm trivial)) fun _=>?_
   exact TotP.ok (Qz ⟨by omega,by subst hi;exact Qv (by omega) (QdM he).1,trivial⟩)
  ·rcases q with q | q
   ·exact TotP.okT
   ·exact TotP.okT
theorem Qri (e:Qf)(he:QcK e):TotP (Qf5 e) fun _=>True:=by
 unfold Qf5 Qmz
 exact TotP.bind (QsM _ e 60 he (Nat.le_refl _)) fun _ _=>TotP.okT
theorem Qu4 (n1:TNet)(h:QH n1):TotP (QiU n1) fun r=>r=true→n1.Colours.length≤40∧n1.Places.length≤70∧n1.Tasks.length≤70:=by
 unfold QiU
 refine TotP.bif (fun _=>TotP.ok fun h=>by cases h) fun hc=>?_
 simp only [Bool.or_eq_false_iff,decide_eq_false_iff_not]at hc
 refine TotP.mono (P:=fun _=>True) ?_ fun _ _ _=>by omega
 refine TotP.bind (TotP.up n1.Colours.length (fun st=>st.2) (fun _=>True) (Q:=fun _=>True) rfl trivial (fun i st hi hn _=>?_)) (fun q _=>?_)
 ·obtain⟨a,x⟩:=st
  replace hi:x=(i:Int):=hi
  show TotP (QeE n1 a x) _
  unfold QeE
  refine TotP.bif (fun hc=>?_) (fun _=>TotP.ok (Qm trivial))
  simp only [decide_eq_true_eq]at hc
  refine TotP.bind (TotP.idx (by omega) (by omega)).self fun e he=>?_
  obtain⟨he,hm⟩:=he
  refine TotP.bind (P:=fun _=>True) ?_ fun y _=>?_
  ·unfold Qkz
   rw [he,Option.bind_some]
   exact TotP.bif (fun _=>TotP.okT) fun _=>TotP.okT
  unfold Qgw
  refine TotP.bif (fun _=>TotP.ok (Qm trivial)) fun _=>?_
  refine TotP.bind (TotP.up e.Names.length (fun st=>st) (fun _=>True) (Q:=fun _=>True) rfl trivial (fun i2 st hi2 hn2 _=>?_)) (fun q _=>?_)
  ·show TotP (QeD n1 x st) _
   unfold QeD
   simp only [he,Option.bind_some]
   refine TotP.bif (fun hc=>?_) (fun _=>TotP.ok (Qm trivial))
   simp only [decide_eq_true_eq]at hc
   refine TotP.bind (TotP.idx (by omega) (by omega)) fun s _=>?_
   refine TotP.bif (fun _=>TotP.ok (Qm trivial)) fun _=>?_
   exact TotP.ok (Qz ⟨by omega,by rw [hi2];exact Qv (by omega) (h.1.2 e hm).2.2.2.2.1.1,trivial⟩)
  ·rcases q with q | q
   ·exact TotP.ok (Qm trivial)
   ·exact TotP.ok (Qz ⟨by omega,by subst hi;exact Qv (by omega) h.1.1,trivial⟩)
 rcases q with q | q
 ·exact TotP.okT
 show TotP (QfH n1 q) _
 unfold QfH
 refine TotP.bind (TotP.up n1.Places.length (fun st=>st.2) (fun _=>True) (Q:=fun _=>True) rfl trivial (fun i st hi hn _=>?_)) (fun q _=>?_)
 ·obtain⟨a,x⟩:=st
  replace hi:x=(i:Int):=hi
  show TotP (QeF n1 a x) _
  unfold QeF
  refine TotP.bif (fun hc=>?_) (fun _=>TotP.ok (Qm trivial))
  simp only [decide_eq_true_eq]at hc
  refine TotP.bind (TotP.idx (by omega) (by omega)) fun e _=>?_
  refine TotP.bind (TotP.idx (by omega) (by omega)) fun e2 _=>?_
  exact TotP.bif (fun _=>TotP.ok (Qm trivial)) fun _=>TotP.ok (Qz ⟨by omega,by subst hi;exact Qv (by omega) h.2.1.1,trivial⟩)
 rcases q with q | q
 ·exact TotP.okT
 show TotP (QfG n1 q) _
 unfold QfG
 refine TotP.bind (TotP.up n1.Tasks.length (fun st=>st.2) (fun _=>True) (Q:=fun _=>True) rfl trivial (fun i st hi hn _=>?_)) (fun q _=>?_)
 ·obtain⟨a,x⟩:=st
  replace hi:x=(i:Int):=hi
  show TotP (QdX n1 a x) _
  unfold QdX
  refine TotP.bif (fun hc=>?_) (fun _=>TotP.ok (Qm trivial))
  simp only [decide_eq_true_eq]at hc
  refine TotP.bind (TotP.idx (by omega) (by omega)) fun e he=>?_
  have ke:=h.2.2.1.2 e he
  refine TotP.bif (fun _=>TotP.ok (Qm trivial)) fun _=>?_
  refine TotP.bind (TotP.up e.Vars.length (fun st=>st) (fun _=>True) (Q:=fun _=>True) rfl trivial (fun i2 st hi2 hn2 _=>?_)) (fun q _=>?_)
  ·show TotP (QdU e st) _
   unfold QdU
   refine TotP.bif (fun hc=>?_) (fun _=>TotP.ok (Qm trivial))
   simp only [decide_eq_true_eq]at hc
   refine TotP.bind (TotP.idx (by omega) (by omega)) fun s _=>?_
   exact TotP.bif (fun _=>TotP.ok (Qm trivial)) fun _=>TotP.ok (Qz ⟨by omega,by rw [hi2];exact Qv (by omega) ke.2.1.1,trivial⟩)
  rcases q with q | q
  ·exact TotP.ok (Qm trivial)
  show TotP (QfF e a x) _
  unfold QfF
  refine TotP.bind (Qri e.Guard ke.2.2.1) fun g _=>?_
  refine TotP.bind (TotP.up e.Ins.length (fun st=>st.2) (fun _=>True) (Q:=fun _=>True) rfl trivial (fun i2 st hi2 hn2 _=>?_)) (fun q _=>?_)
  ·obtain⟨b,y⟩:=st
   replace hi2:y=(i2:Int):=hi2
   show TotP (QdV e b y) _
   unfold QdV
   refine TotP.bif (fun hc=>?_) (fun _=>TotP.ok (Qm trivial))
   simp only [decide_eq_true_eq]at hc
   refine TotP.bind (TotP.idx (by omega) (by omega)) fun s hs=>?_
   refine TotP.bind (Qri s.Expr (ke.2.2.2.2.2.1.2 s hs).2) fun g _=>?_
   exact TotP.ok (Qz ⟨by omega,by subst hi2;exact Qv (by omega) ke.2.2.2.2.2.1.1,trivial⟩)
  show TotP (QfE e a x q) _
  unfold QfE
  refine TotP.bind (TotP.up e.Outs.length (fun st=>st.2) (fun _=>True) (Q:=fun _=>True) rfl trivial (fun i2 st hi2 hn2 _=>?_)) (fun q _=>?_)
  ·obtain⟨b,y⟩:=st
   replace hi2:y=(i2:Int):=hi2
   show TotP (QdW e b y) _
   unfold QdW
   refine TotP.bif (fun hc=>?_) (fun _=>TotP.ok (Qm trivial))
   simp only [decide_eq_true_eq]at hc
   refine TotP.bind (TotP.idx (by omega) (by omega)) fun s hs=>?_
   refine TotP.bind (Qri s.Expr (ke.2.2.2.2.2.2.1.2 s hs).2) fun g _=>?_
   exact TotP.ok (Qz ⟨by omega,by subst hi2;exact Qv (by omega) ke.2.2.2.2.2.2.1.1,trivial⟩)
  show TotP (QfD a e x q) _
  unfold QfD
  exact TotP.bif (fun _=>TotP.ok (Qm trivial)) fun _=>TotP.ok (Qz ⟨by omega,by subst hi;exact Qv (by omega) h.2.2.1.1,trivial⟩)
 rcases q with q | q
 ·exact TotP.okT
 ·exact TotP.okT
theorem Qu5 (m:List (List (Int×Int)))(h:m.length≤maxLen):TotP (QiV m) fun _=>True:=by
 unfold QiV
 refine TotP.bind (TotP.up m.length (fun st=>st.2) (fun _=>True) (Q:=fun _=>True) rfl trivial (fun i st hi hn _=>?_)) (fun q _=>TotP.okT)
 obtain⟨a,x⟩:=st
 replace hi:x=(i:Int):=hi
 show TotP (QeG m a x) _
 unfold QeG
 refine TotP.bif (fun hc=>?_) (fun _=>TotP.ok (Qm trivial))
 simp only [Bool.and_eq_true,decide_eq_true_eq]at hc
 refine TotP.bind (TotP.idx (by omega) (by omega)) fun e _=>?_
 exact TotP.ok (Qz ⟨by omega,by subst hi;exact Qv (by omega) h,trivial⟩)
theorem Qu6 {l:List (Int×Int)}(h:Asc l):∀{a:Int},(∀p∈l,a≤p.1)→∀(i:Nat) (hi:i<l.length),a+i≤(l[i]).1:=by
 induction l with
 | nil=>intro a _ i hi;simp at hi
 | cons p l ih=>
  intro a ha i hi
  obtain⟨h1,h2⟩:=Qfe.1 h
  cases i with
  | zero=>have:=ha p List.mem_cons_self;simpa using this
  | succ i=>
   have h3:=ih h2 (a:=a+1) (fun q hq=>by have:=h1 q hq;have:=ha p List.mem_cons_self;omega) i (by simpa using hi)
   simp only [List.getElem_cons_succ]
   omega
theorem QuB {l:List (Int×Int)}(h:Asc l)(h0:0<l.length){k:Int}(hk:0<cntL l k):k≤(l[l.length-1]).1:=by
 unfold cntL at hk
 cases e:mget l k with
 | none=>rw [e]at hk;simp at hk
 | some v=>
  obtain⟨j,hj,hjk⟩:=List.mem_iff_getElem.1 ((Qb8 h.nd).1 e)
  by_cases c:j=l.length-1
  ·subst c;rw [hjk];exact Int.le_refl _
  ·have:=List.pairwise_iff_getElem.1 h j (l.length-1) hj (by omega) (by omega)
   rw [hjk]at this
   simp only at this
   omega
def MOk (n:TNet)(c:Nat)(m:List (List (Int×Int))):Prop:=m.length=n.Places.length∧∀b∈m,Rt b∧b.length≤c
theorem MOk.mono {n:TNet}{c c':Nat}{m:List (List (Int×Int))}(h:MOk n c m)(hc:c≤c'):MOk n c' m:=⟨h.1,fun b hb=>⟨(h.2 b hb).1,Nat.le_trans (h.2 b hb).2 hc⟩⟩
def Low (n:TNet)(m:List (List (Int×Int))):Prop:=∀(j:Nat) b p,m[j]? = some b→n.Places[j]? = some p→∀k,0<cntL b k→∃z,Qa1 n.Colours p.Colour=some z∧k<z
theorem Qsq (n1:TNet)(m:List (List (Int×Int)))(h:QH n1)(hm:lenL (lenL fun _=>True) m):TotP (QbT n1 m) fun r=>r=true→MOk n1 1024 m∧Low n1 m:=by
 unfold QbT
 refine TotP.bif (fun _=>TotP.ok fun h=>by cases h) fun hc=>?_
 have hl:m.length=n1.Places.length:=by simp only [bne_eq_false_iff_eq]at hc;omega
 refine TotP.bind (TotP.up m.length (fun st=>st) (fun st=>∀(j:Nat) (hj:j<m.length),(j:Int)<st→(Rt m[j]∧(m[j]).length≤1024)∧∀p,n1.Places[j]? = some p→∀k,0<cntL m[j] k→∃z,Qa1 n1.Colours p.Colour=some z∧k<z) (Q:=fun q=>q=.inr ()→(∀b∈m,Rt b∧b.length≤1024)∧Low n1 m) rfl (fun j _ hj=>by omega) (fun i st hi hn hJ=>?_)) (fun q hq=>?_)
 ·show TotP (QbE m n1 st) _
  unfold QbE
  refine TotP.bif (fun hc=>?_) (fun hc=>TotP.ok (Qm fun _=>⟨fun b hb=>by
   obtain⟨j,hj,rfl⟩:=List.mem_iff_getElem.1 hb
   simp only [decide_eq_false_iff_not]at hc
   exact(hJ j hj (by omega)).1,fun j b p hb hp=>by
   obtain⟨hj,rfl⟩:=List.getElem?_eq_some_iff.1 hb
   simp only [decide_eq_false_iff_not]at hc
   exact(hJ j hj (by omega)).2 p hp⟩))
  simp only [decide_eq_true_eq]at hc
  have hlt:i<m.length:=by omega
  have hlp:i<n1.Places.length:=by omega
  rw [hi,Qbu,List.getElem?_eq_getElem hlt,Option.bind_some,Qbu,List.getElem?_eq_getElem hlp,Option.bind_some]
  refine TotP.bind (QfV n1.Colours (n1.Places[i]).Colour h.1).self fun sz hsz=>?_
  obtain⟨hze,hsz⟩:=hsz
  have hb:=hm.2 _ (List.getElem_mem hlt)
  have hbl:=hb.1
  refine TotP.bind (P:=fun r=>r=false→(Rt m[i]∧(m[i]).length≤1024)∧∀k,0<cntL m[i] k→k<sz) ?_ fun x hx=>?_
  ·unfold QhN
   rw [Qkj _ hb.1,Option.bind_some]
   refine TotP.bif (fun _=>TotP.ok fun h=>by cases h) fun hr=>?_
   have hrt:=QdL.1 (by simpa using hr:rtF (-1) m[i]=true)
   refine TotP.bif (fun h0=>?_) (fun h0=>TotP.ok fun _=>⟨⟨hrt,by simp only [decide_eq_false_iff_not]at h0;omega⟩,fun k hk=>by
    simp only [decide_eq_false_iff_not]at h0
    rw [show m[i]=[]from List.length_eq_zero_iff.1 (by omega)]at hk
    simp [cntL,mget]at hk⟩)
   simp only [decide_eq_true_eq]at h0
   unfold maxLen at hbl
   rw [QdK (by omega),show((m[i]).length:Int)-1=(((m[i]).length-1:Nat):Int) by omega,Qbu,List.getElem?_eq_getElem (by omega),Option.bind_some]
   refine TotP.ok fun hf=>?_
   simp only [decide_eq_false_iff_not]at hf
   have:=Qu6 hrt.1 (a:=0) (fun p hp=>(hrt.2 p hp).1) ((m[i]).length-1) (by omega)
   refine⟨⟨hrt,by omega⟩,fun k hk=>?_⟩
   have:=QuB hrt.1 (by omega) hk
   omega
  ·unfold Qd0
   refine TotP.bif (fun _=>TotP.ok (Qm fun h=>by cases h)) fun hxf=>?_
   refine TotP.ok (Qz ⟨hlt,Qv hlt hm.1,fun j hj hjs=>?_⟩)
   rw [Qv hlt hm.1]at hjs
   by_cases c:j=i
   ·subst c
    refine⟨(hx hxf).1,fun p hp k hk=>⟨sz,?_,(hx hxf).2 k hk⟩⟩
    rw [List.getElem?_eq_getElem hlp]at hp
    cases hp
    exact hze
   ·exact hJ j hj (by omega)
 ·rcases q with q | q
  ·exact TotP.ok fun h=>by cases h
  ·exact TotP.ok fun _=>⟨⟨hl,(hq rfl).1⟩,(hq rfl).2⟩
structure QaZ (n:TNet):Prop where
 k:QH n
 pl:n.Places.length≤70
 tl:n.Tasks.length≤12
 tk:∀t∈n.Tasks,t.Vars.length≤16∧t.Ins.length≤16∧t.Outs.length≤16∧t.Cancel.length≤16
theorem Qt3 (n1:TNet)(k2:Int)(h:QbQ n1 k2=some 0):∃t,idx n1.Tasks k2=some t∧t.Vars.length≤16∧t.Ins.length≤16∧t.Outs.length≤16∧t.Cancel.length≤16:=by
 unfold QbQ at h
 obtain⟨x5,_,h⟩:=Qb h
 rcases bifE h with⟨_,h⟩|⟨_,h⟩
 ·cases h
 obtain⟨x7,_,h⟩:=Qb h
 rcases bifE h with⟨c,h⟩|⟨_,h⟩
 ·simp only [Option.some.injEq]at h;rw [h]at c;cases c
 obtain⟨e9,he9,h⟩:=Qb h
 obtain⟨e10,he10,h⟩:=Qb h
 rw [he9]at he10;cases he10
 obtain⟨_,_,h⟩:=Qb h
 obtain⟨_,_,h⟩:=Qb h
 obtain⟨_,_,h⟩:=Qb h
 obtain⟨_,_,h⟩:=Qb h
 obtain⟨x15,hx,h⟩:=Qb h
 have bad:∀a b:Int,0<a→x15=(a,b)→False:=fun a b ha e=>by
  subst e
  simp only at h
  rcases bifE h with⟨c,h⟩|⟨_,h⟩
  ·simp only [beq_iff_eq]at c;omega
  ·simp only [Option.some.injEq]at h;omega
 unfold Qdu at hx
 obtain⟨x20,_,hx⟩:=Qb hx
 rcases bifE hx with⟨_,hx⟩|⟨_,hx⟩
 ·exact(bad _ _ (by decide) (Option.some.inj hx).symm).elim
 obtain⟨x22,_,hx⟩:=Qb hx
 rcases bifE hx with⟨_,hx⟩|⟨_,hx⟩
 ·exact(bad _ _ (by decide) (Option.some.inj hx).symm).elim
 obtain⟨x24,h24,hx⟩:=Qb hx
 rcases bifE hx with⟨_,hx⟩|⟨c,hx⟩
 ·exact(bad _ _ (by decide) (Option.some.inj hx).symm).elim
 unfold QeH at h24
 simp only [Option.some.injEq]at h24
 rw [←h24]at c
 simp only [Bool.not_eq_false',Bool.and_eq_true,decide_eq_true_eq,Qiv]at c
 exact⟨e9,he9,by omega,by omega,by omega,by omega⟩
theorem QsK (l1:List Qr)(n1:TNet)(h:QH n1)(hl:lenL Qam l1):TotP (Qbc l1 n1) fun r=>r.2=0→∀(j:Nat),j<l1.length→QbQ n1 j=some 0:=by
 unfold Qbc
 refine TotP.bind (TotP.up l1.length (fun st=>st) (fun st=>∀(j:Nat),(j:Int)<st→QbQ n1 j=some 0) (Q:=fun q=>(∀a b,q=.inl (a,b)→b≠0)∧(q=.inr ()→∀(j:Nat),j<l1.length→QbQ n1 j=some 0)) rfl (fun j hj=>by omega) (fun i st hi hn hJ=>?_)) (fun q hq=>?_)
 ·show TotP (Qao l1 n1 st) _
  unfold Qao
  refine TotP.bif (fun hc=>?_) (fun hc=>TotP.ok (Qm ⟨fun a b h=>(by cases h),fun _ j hj=>by
   simp only [decide_eq_false_iff_not]at hc
   exact hJ j (by omega)⟩))
  simp only [decide_eq_true_eq]at hc
  refine TotP.bind (TotP.idx (by omega) (by omega)) fun e he=>?_
  refine TotP.bind (P:=fun x=>QbQ n1 st=some x) ?_ fun x hx=>?_
  ·unfold Qfx
   exact TotP.bind (Qm1 n1 st h).self fun x hx=>TotP.ok hx.1
  refine TotP.bif (fun hc=>TotP.ok (Qm ⟨fun a b h=>(by cases h;simpa using hc),fun h=>(by cases h)⟩)) fun hc=>?_
  simp only [bne_eq_false_iff_eq]at hc
  refine TotP.ok (Qz ⟨by omega,by rw [hi];exact Qv (by omega) hl.1,fun j hj=>?_⟩)
  rw [hi,Qv (show i<l1.length by omega) hl.1]at hj
  by_cases c:j=i
  ·subst c;rw [←hi,hx,hc]
  ·exact hJ j (by omega)
 ·rcases q with q | q
  ·exact TotP.ok fun h=>absurd h (hq.1 q.1 q.2 rfl)
  ·exact TotP.ok fun _=>hq.2 rfl
theorem Qt4 (n1:TNet)(h:QH n1){p:QdO}(hn:Qf8 n1=some (0,p)):∀t∈n1.Tasks,t.Vars.length≤16∧t.Ins.length≤16∧t.Outs.length≤16∧t.Cancel.length≤16:=by
 unfold Qf8 at hn
 obtain⟨x6,_,hn⟩:=Qb hn
 rcases bifE hn with⟨c,hn⟩|⟨_,hn⟩
 ·simp only [Option.some.injEq,Prod.mk.injEq]at hn;rw [hn.1]at c;cases c
 obtain⟨x8,_,hn⟩:=Qb hn
 rcases bifE hn with⟨c,hn⟩|⟨_,hn⟩
 ·simp only [Option.some.injEq,Prod.mk.injEq]at hn;rw [hn.1]at c;cases c
 obtain⟨x10,_,hn⟩:=Qb hn
 rcases bifE hn with⟨c,hn⟩|⟨_,hn⟩
 ·simp only [Option.some.injEq,Prod.mk.injEq]at hn;rw [hn.1]at c;cases c
 obtain⟨x12,h12,hn⟩:=Qb hn
 rcases bifE hn with⟨c,hn⟩|⟨c,hn⟩
 ·simp only [Option.some.injEq,Prod.mk.injEq]at hn;rw [hn.1]at c;cases c
 simp only [bne_eq_false_iff_eq]at c
 obtain⟨r,hr,hr2⟩:=QsK n1.Tasks n1 h h.2.2.1
 rw [h12]at hr;cases hr
 intro t ht
 obtain⟨j,hj,rfl⟩:=List.mem_iff_getElem.1 ht
 obtain⟨t,h1,h2⟩:=Qt3 n1 j (hr2 c j hj)
 rw [Qbu,List.getElem?_eq_getElem hj]at h1
 cases h1
 exact h2
theorem Qvy (n1:TNet)(m:List (List (Int×Int)))(h:QH n1)(hm:lenL (lenL fun _=>True) m):TotP (Qic n1 m) fun r=>r=true→QaZ n1∧MOk n1 1024 m∧Low n1 m:=by
 unfold Qic
 refine TotP.bind (Qu4 n1 h) fun x5 h5=>?_
 refine TotP.bind (Qu5 m hm.1) fun x6 _=>?_
 refine TotP.bif (fun _=>TotP.ok fun h=>by cases h) fun hc=>?_
 simp only [Bool.or_eq_false_iff,Bool.not_eq_false',decide_eq_false_iff_not]at hc
 have h5:=h5 hc.1
 refine TotP.bind (QrN n1 h).self fun x11 h11=>?_
 refine TotP.bind (P:=fun r=>r=false→QaZ n1∧MOk n1 1024 m∧Low n1 m) ?_ fun x12 h12=>?_
 ·unfold Qkc
  refine TotP.bif (fun _=>TotP.ok fun h=>by cases h) fun hc1=>?_
  simp only [bne_eq_false_iff_eq]at hc1
  refine TotP.bind (Qsq n1 m h hm) fun r hr=>TotP.ok fun hrf=>⟨⟨h,h5.2.1,by omega,?_⟩,hr (by simpa using hrf)⟩
  obtain⟨a,b⟩:=x11
  simp only at hc1
  subst hc1
  exact Qt4 n1 h h11.1
 unfold QfU
 refine TotP.bif (fun _=>TotP.ok fun h=>by cases h) fun hx=>?_
 have hfin:=h12 hx
 refine TotP.mono (P:=fun _=>True) ?_ fun _ _ _=>hfin
 refine TotP.bind (TotP.up n1.Tasks.length (fun st=>st.2) (fun _=>True) (Q:=fun _=>True) rfl trivial (fun i st hi hn _=>?_)) (fun q _=>TotP.okT)
 obtain⟨a,x⟩:=st
 replace hi:x=(i:Int):=hi
 show TotP (Qd1 n1 a x) _
 unfold Qd1
 refine TotP.bif (fun hc=>?_) (fun _=>TotP.ok (Qm trivial))
 simp only [decide_eq_true_eq]at hc
 refine TotP.bind (TotP.idx (by omega) (by omega)) fun e _=>?_
 refine TotP.bind (Qmp n1 x h) fun y _=>?_
 exact TotP.ok (Qz ⟨by omega,by subst hi;exact Qv (by omega) h.2.2.1.1,trivial⟩)
end Go.Proofs
