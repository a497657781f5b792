/- A part of the proof; what it holds is told at each theorem. -/
import Derived.Test.YtpijolohkdchcaaGreatDoorXVm3
set_option linter.unusedVariables false
set_option linter.unusedSimpArgs false
set_option linter.unusedSectionVars false
set_option linter.deprecated false
namespace Go.Vm
open Go Go.RowKit
section
variable {P:Program}{C:Ctx}{Q:Exit→St→Prop}{σ:St}{ks:List Fr}{o:Oper}
theorem Qrv {σ':St}{φ φ':Prop}{d f:Nat}{vs us:List V}{M N:List (Nat×Nat)}{dead:List Nat}{ms:List Mode}{outs hsC:List (Nat×Ob)}{r:V}
  (hus:QjE (bkM M) ms vs=some us) (hC:obsM (bkM M) (look σ.hp) M=some hsC)
  (e:cmV P σ φ d f vs M N dead ms outs r=some (σ',φ')):∃hsN r',QcR σ M N dead outs=true∧(M.map Prod.fst).Nodup∧Vws σ.hp false false (snds M) (fun a b=>look M b=some a) vs us∧ObsW σ.hp false false (snds M) (fun a b=>look M b=some a) σ.hp M hsC∧
   ObsW [] false false [] (fun c b=>look N b=some c) outs N hsN∧Vw [] false false [] (fun c b=>look N b=some c) r r'∧σ'=(σ.after dead hsN).put d r':=by
 unfold cmV at e
 replace e:=bifS e;obtain⟨e1,e⟩:=e
 simp only [Bool.and_eq_true]at e1
 obtain⟨⟨h1,h2⟩,h3⟩:=e1
 have h2:=QbX.1 h2
 have h3:=QbX.1 h3
 have inj:injB M=true∧injB N=true:=by
  simp only [QcR,Bool.and_eq_true]at h1
  exact⟨h1.1.1.1,h1.1.1.2⟩
 have mM:∀a b,bkM M a=some b→look M b=some a:=fun a b h=>Qa3 inj.1 (Qfo h) h2
 have mN:∀a b,bkM N a=some b→look N b=some a:=fun a b h=>Qa3 inj.2 (Qfo h) h3
 simp only [hus,hC]at e
 split at e
 ·rename_i hsN hN
  split at e
  ·rename_i r' hr
   cases e
   exact⟨hsN,r',h1,h2,Qho mM hus,Qco mM hC,Qco mN hN,Qjr mN hr,rfl⟩
  ·cases e
 ·cases e
theorem AK.callE {ι:Type}[Inhabited ι]{Φ:ι→Prop}{d f n:Nat}{ops:Array Oper}{rest:List Oper}{vs us:List V}{hsC:List (Nat×Ob)}(M N:List (Nat×Nat))(dead:List Nat)(ms:List Mode)(outs:ι→List (Nat×Ob))(r:ι→V)(σ':ι→St)
  (hg:o.guard=none) (hCn:Qem P C n) (hE:Qa2 P C o σ f vs) (hd:o.dst=some d) (hn:Nat.ble (d+1) C.n=true)
  (hus:QjE (bkM M) ms vs=some us) (hC:obsM (bkM M) (look σ.hp) M=some hsC)
  (hc:Qc P f us hsC fun v hs=>∃x,Φ x∧Gives (r x) (outs x) v hs)
  (e:∀x,∃φ',cmV P σ True d f vs M N dead ms (outs x) (r x)=some (σ' x,φ'))
  (k:∀x,Φ x→AK P C Q (.o ops rest) ks (σ' x)):AK P C Q (.o ops (o::rest)) ks σ:=by
 intro a w ⟨φ,hr⟩
 simp only [wpListIn,Region.wanted,hg,if_true]
 refine⟨fun _ _=>trivial,?_⟩
 obtain⟨vals,hex,h1,h2⟩:=hE φ a w hr
 rw [QoU hex,Oper.uponIn_enter]
 obtain⟨_,e0⟩:=e default
 obtain⟨_,_,n1,n2,hv,hobs,_,_,_⟩:=Qrv hus hC e0
 have hN0:=Names.of n1 n2
 refine⟨(fun h=>by cases h),QmI ((hc _ _ w _ (Ins.of_vals hr h1 h2 hN0.injM hN0.param hv hobs) ((hr.glob hCn.g).mono fun _ h=>.inl h)).mono ?_)⟩
 rintro e' w' ⟨x,v,hs',φ',rfl,⟨i,hΦ,rfl,hso⟩,hout⟩
 obtain⟨_,ei⟩:=e i
 obtain⟨hsN,r',n1,n2,_,_,hback,hr',hσ⟩:=Qrv hus hC ei
 have hN:=Names.of n1 n2
 obtain⟨h3,h4⟩:=hr.after hN hout hso (fun c s h=>by
  obtain⟨ob',e1⟩:=hobs.get.2 c s h
  obtain⟨s',ob,e2,e3,_⟩:=hobs.get.1 c ob' e1
  rw [h]at e2;cases e2;exact⟨ob,e3⟩) hback
 refine k i hΦ _ _ ⟨join φ M N dead φ',?_⟩
 rw [hd,hσ]
 exact h3.put (QS hn) (h4 hr')
theorem Qrw {σ':St}{φ':Prop}{f:Nat}{vs us:List V}{M N:List (Nat×Nat)}{dead:List Nat}{ms:List Mode}{outs hsC:List (Nat×Ob)}{r:V}
  (hus:QjE (bkM M) ms vs=some us) (hC:obsM (bkM M) (look σ.hp) M=some hsC)
  (e:rgV P σ f vs M N dead ms outs r=some (σ',φ')):∃hsN,QcR σ M N dead outs=true∧(M.map Prod.fst).Nodup∧Vws σ.hp false false (snds M) (fun a b=>look M b=some a) vs us∧ObsW σ.hp false false (snds M) (fun a b=>look M b=some a) σ.hp M hsC∧
   ObsW [] false false [] (fun c b=>look N b=some c) outs N hsN∧σ'=σ.after dead hsN:=by
 unfold rgV at e
 replace e:=bifS e;obtain⟨e1,e⟩:=e
 simp only [Bool.and_eq_true]at e1
 obtain⟨⟨h1,h2⟩,h3⟩:=e1
 have h2:=QbX.1 h2
 have h3:=QbX.1 h3
 have inj:injB M=true∧injB N=true:=by
  simp only [QcR,Bool.and_eq_true]at h1
  exact⟨h1.1.1.1,h1.1.1.2⟩
 have mM:∀a b,bkM M a=some b→look M b=some a:=fun a b h=>Qa3 inj.1 (Qfo h) h2
 have mN:∀a b,bkM N a=some b→look N b=some a:=fun a b h=>Qa3 inj.2 (Qfo h) h3
 simp only [hus,hC]at e
 split at e
 ·rename_i hsN hN
  cases e
  exact⟨hsN,h1,h2,Qho mM hus,Qco mM hC,Qco mN hN,rfl⟩
 ·cases e
theorem AK.rangeFE {ι:Type}[Inhabited ι]{Φ:ι→Prop}{g:Operand}{ps:Array Tmp}{assign body:Code}{f n:Nat}{fs cps:List V}(b:Nat)(ts:List Nat)(M N:List (Nat×Nat))(dead:List Nat)(ms:List Mode)(K:Nat→Qga)(hCn:Qem P C n)(hrnd:C.rnd=none)(hK:∀fn,K fn=⟨fn,ps,assign,body⟩)
  (hg:σ.opd g=some (.clo (.func f) fs cps)) (he:entB P f=true) (hb:look σ.hp b=none) (hb2:Nat.ble 200000 b=false)
  (H:∀l fn,∃(outs:ι→List (Nat×Ob)) (r:ι→V) (σ2:ι→St) (us:List V) (hsC:List (Nat×Ob)),QjE (bkM M) ms (fs++(.clo (.yield l) [] []::cps))=some us∧obsM (bkM M) (look (σ.set b (.lp l (K fn) (snap ts σ.fr n) 0)).hp) M=some hsC∧
   Qc P f us hsC (fun v hs=>∃x,Φ x∧Gives (r x) (outs x) v hs)∧∀x,∃φ2 cs2 q,rgV P (σ.set b (.lp l (K fn) (snap ts σ.fr n) 0)) f (fs++(.clo (.yield l) [] []::cps)) M N dead ms (outs x) (r x)=some (σ2 x,φ2)∧look (σ2 x).hp b=some (.lp l (K fn) cs2 q)∧q≠1∧
   (Φ x→atJ (AK P C Q (.x .normal) ks ((σ2 x).kill b)) (fun c=>AK P C Q (.c c) ks ((σ2 x).kill b)) (jmp q))):AK P C Q (.c (.rangeFunc g ps assign body)) ks σ:=by
 obtain rfl:K=fun fn=>⟨fn,ps,assign,body⟩:=funext hK
 have hpg:=hCn.g
 replace hCn:=hCn.n
 subst hCn
 intro a w ⟨φ,hr⟩
 refine wpIn_rangeFunc fun fn _=>?_
 obtain⟨outs,r,σ2,us,hsC,hus,hC,hcall,hx⟩:=H (w.heap.size+1) fn
 obtain⟨xs,ys,hev,e1,e2,e3,e4⟩:=(hr.opd hg).clo_inv
 have hb3:b<200000:=Qd2 (by rw [hb2];rfl)
 refine⟨w.heap.size+1,[{ target:=.collected w.heap.size,args:=#[] }],(w.alloc (.deferred (some []))).alloc (.loop { state:=.ready,pending:=none,fn,tmps:=a.tmps,params:=ps,assign,body,defers:=w.heap.size }),{ target:=.fn (.func f) ys,args:=xs++#[.func (.yield (w.heap.size+1)) #[] #[]] },(w.alloc (.deferred (some []))).alloc (.loop { state:=.ready,pending:=none,fn,tmps:=a.tmps,params:=ps,assign,body,defers:=w.heap.size }),f,(xs++#[.func (.yield (w.heap.size+1)) #[] #[]])++ys,(w.alloc (.deferred (some []))).alloc (.loop { state:=.ready,pending:=none,fn,tmps:=a.tmps,params:=ps,assign,body,defers:=w.heap.size }),?_,?_,fun _ _=>trivial,?_,(fun h=>by cases h),?_⟩
 ·rw [show C.F.round=none from hrnd];exact run_enterLoop_outer _ _ _ _ _
 ·have hy:a.eval (.const (.func (.yield (w.heap.size+1)) #[] #[]))=.func (.yield (w.heap.size+1)) #[] #[]:=rfl
  simp only [resolve,hev,Deferred.ofValue,Sem.run_pure,List.map_toArray,List.map_cons,List.map_nil,hy]
 ·exact Qgj he
 have hm:=hr.mark
 have hN0:=hm.none_of_look hb
 have hsz:(w.alloc (.deferred (some []))).heap.size=w.heap.size+1:=by simp
 have hR1:=hm.alloc (cap:=0) (z:=0) hb hb3 (ob:=.lp (w.heap.size+1) ⟨fn,ps,assign,body⟩ (snap ts σ.fr C.n) 0)
  (obj:=.loop { state:=.ready,pending:=none,fn,tmps:=a.tmps,params:=ps,assign,body,defers:=w.heap.size })
  ⟨a.tmps,w.heap.size,hsz,rfl,by rw [←hsz];exact World.alloc_heap_new _ _,by rw [hr.tmps];simp [Vm.snap],fun j x v hx hv=>(hm.snap j x v hx hv).mono (hm.mono_ext _ hN0) (hm.imm_alloc b 0 0 _ hN0)⟩
 rw [hsz]at hR1
 generalize hσ1:σ.set b (.lp (w.heap.size+1) ⟨fn,ps,assign,body⟩ (snap ts σ.fr C.n) 0)=σ1 at hR1 hx hC
 generalize hw1:(w.alloc (.deferred (some []))).alloc (.loop { state:=.ready,pending:=none,fn,tmps:=a.tmps,params:=ps,assign,body,defers:=w.heap.size })=w1 at hR1 ⊢
 have hval:(xs++#[.func (.yield (w.heap.size+1)) #[] #[]])++ys=(xs.toList++(.func (.yield (w.heap.size+1)) #[] #[]::ys.toList)).toArray:=by apply Array.ext';simp
 rw [hval]
 obtain⟨_,_,_,ed,_⟩:=hx default
 obtain⟨_,n1,n2,hv,hobs,_,_⟩:=Qrw hus hC ed
 have hNm:=Names.of n1 n2
 have hfr1:σ1.fr=σ.fr:=by rw [←hσ1];rfl
 refine QmI ((hcall _ _ w1 _ (Ins.of_vals (g:=false) (vs:=fs++(.clo (.yield (w.heap.size+1)) [] []::cps)) hR1 (by simp [e1,e2]) (fun j x v hx hv=>?_) hNm.injM hNm.param hv hobs) ((hR1.glob hpg).mono fun _ h=>.inl h)).mono ?_)
 ·have up:=fun {x:Value} {v:V} (h:Rep φ (Imm C φ w) w x v)=>(h.mono (φ':=φ) (I':=Imm C φ (w.alloc (.deferred (some [])))) (w':=w.alloc (.deferred (some []))) (fun _ _ h=>h) fun k hk=>⟨⟨by have:=hk.1;simp;omega,hk.2⟩,Below.heap_alloc w _ k hk.1⟩).mono (hm.mono_ext ⟨w.heap.size+1,0,0,[],0⟩ hN0) (by
   have:=hm.imm_alloc b 0 0 (.loop { state:=.ready,pending:=none,fn,tmps:=a.tmps,params:=ps,assign,body,defers:=w.heap.size }) hN0
   rw [hsz,hw1]at this;exact this)
  by_cases c1:j<fs.length
  ·rw [List.getElem?_append_left (by simpa using (by omega:j<xs.size))]at hx
   rw [List.getElem?_append_left c1]at hv
   exact up (e3 j x v (by simpa using hx) hv)
  ·rw [List.getElem?_append_right (by simp;omega)]at hx
   rw [List.getElem?_append_right (by omega)]at hv
   simp only [Array.length_toList]at hx
   rw [e1]at hx
   generalize j-fs.length=i at hx hv
   cases i with
   | zero=>
    simp at hx hv;subst hx;subst hv
    exact .clo (.yield _) #[] #[] [] [] rfl rfl (fun j x v h=>by simp at h) (fun j x v h=>by simp at h)
   | succ i=>simp only [List.getElem?_cons_succ]at hx hv;exact up (e4 i x v (by simpa using hx) hv)
 ·rintro e w' ⟨x,v,hs',φ',rfl,⟨i,hΦ,rfl,hso⟩,hout⟩
  obtain⟨_,cs2,q,ei,hq,hq1,hk⟩:=hx i
  replace hk:=hk hΦ
  obtain⟨hsN,n1,n2,_,_,hback,hσ2⟩:=Qrw hus hC ei
  have hNm:=Names.of n1 n2
  obtain⟨k3,_⟩:=hR1.after hNm hout hso (fun c s h=>by
   obtain⟨ob',e1⟩:=hobs.get.2 c s h
   obtain⟨s',ob,e2,e3,_⟩:=hobs.get.1 c ob' e1
   rw [h]at e2;cases e2;exact⟨ob,e3⟩) hback
  rw [←hσ2]at k3
  obtain⟨B,hB,tmps,D,f1,f2,f3,f4,f5⟩:=k3.lp hq
  have hst:lst q≠.busy:=by
   match q,hq1 with
   | 0,_=>exact(by intro h;cases h)
   | 1,h=>exact absurd rfl h
   | k+2,_=>exact(by intro h;cases h)
  refine⟨_,_,run_endLoop f3 hst,?_⟩
  have hkill:=k3.killTo hB (w':=w'.putObj (w.heap.size+1) (.loop { state:=.exhausted,pending:=jmp q,fn,tmps,params:=ps,assign,body,defers:=D })) rfl rfl rfl World.putObj_size (fun k hk=>World.putObj_heap_other (by rw [←f1];exact hk))
  simp only
  cases hj:jmp q with
  | none=>rw [hj]at hk hkill;exact hk _ _ ⟨_,hkill⟩
  | some c=>rw [hj]at hk hkill;exact hk _ _ ⟨_,hkill⟩
end
def cntM (n:Nat)(p:Int×Int):Option (Nat⊕Empty):=some (.inl (n+1))
theorem QpF : ∀(l:List (Int×Int)) (n:Nat),runL cntM n l=some (.inl (n+l.length)):=by
 intro l
 induction l with
 | nil=>intro n;rfl
 | cons p l ih=>intro n;simp only [runL,cntM,Option.bind_some,Sum.elim_inl];rw [ih];simp [Nat.add_comm,Nat.add_left_comm]
theorem QtQ (l:List (Int×Int))(n:Nat):Qg9 cntM n l=some (.inl (n+l.length)):=Qii.2 ⟨fun l' h=>by rw [QpF,QpF,h.length_eq],QpF l n⟩
theorem Qti {l m:List Int}(h:l.Perm m):Qb7 l=Qb7 m:=by
 unfold Qb7
 refine List.Perm.eq_of_pairwise (le:=fun x y:Int=>x≤y) ?_ ?_ ?_ ?_
 ·intro a b _ _ h1 h2;omega
 ·exact(List.pairwise_mergeSort (le:=fun x y:Int=>decide (x≤y)) (fun a b c h1 h2=>by simp at *;omega) (fun a b=>by simp;omega) l).imp fun h=>by simpa using h
 ·exact(List.pairwise_mergeSort (le:=fun x y:Int=>decide (x≤y)) (fun a b c h1 h2=>by simp at *;omega) (fun a b=>by simp;omega) m).imp fun h=>by simpa using h
 ·exact((List.mergeSort_perm l _).trans h).trans (List.mergeSort_perm m _).symm
end Go.Vm
