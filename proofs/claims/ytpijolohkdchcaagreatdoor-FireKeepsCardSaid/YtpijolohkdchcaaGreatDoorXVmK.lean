/- A part of the proof; what it holds is told at each theorem. -/
import Derived.Test.YtpijolohkdchcaaGreatDoorXVmJ
set_option linter.unusedVariables false
set_option linter.unusedSimpArgs false
set_option linter.unusedSectionVars false
set_option linter.deprecated false
namespace Go.Vm
open Go Go.RowKit
def V.datC : V→Bool
 | .agg cs=>cs.all V.dat
 | v=>v.dat
def V.datA : V→Bool
 | .tup cs=>cs.all V.datC
 | v=>v.datC
def V.sca : V→Bool
 | .b _=>true
 | .i _ _=>true
 | .s _=>true
 | .J=>true
 | .lit _=>true
 | _=>false
def V.scaC : V→Bool
 | .agg cs=>cs.all V.sca
 | v=>v.sca
def V.scaA : V→Bool
 | .tup cs=>cs.all V.scaC
 | v=>v.scaC
section
variable {φ φ':Nat→Option Blk}{I I':Nat→Prop}{w w':World}{x:Value}{v:V}
theorem Rep.datC (h:Rep φ I w x v)(hv:v.datC=true)(hI:∀k,I k→I' k∧w'.heap[k]? = w.heap[k]?):Rep φ' I' w' x v:=by
 cases v with
 | agg cs=>
  obtain⟨xs,rfl,hs,hr⟩:=h.agg_inv
  rw [V.datC,List.all_eq_true]at hv
  exact .agg xs cs hs fun j x v hx hv'=>.dat (((hr j x v hx hv').toDat (hv v (List.mem_of_getElem? hv'))).mono hI)
 | _=>exact .dat ((h.toDat hv).mono hI)
theorem Rep.datA (h:Rep φ I w x v)(hv:v.datA=true)(hI:∀k,I k→I' k∧w'.heap[k]? = w.heap[k]?):Rep φ' I' w' x v:=by
 cases v with
 | tup cs=>
  obtain⟨xs,rfl,hs,hr⟩:=h.tup_inv
  rw [V.datA,List.all_eq_true]at hv
  exact .tup xs cs hs fun j x v hx hv'=>(hr j x v hx hv').datC (hv v (List.mem_of_getElem? hv')) hI
 | _=>exact h.datC hv hI
theorem Rep.sca (h:Rep φ I w x v)(hv:v.sca=true):Rep φ' I' w' x v:=by
 cases v with
 | b y=>rw [h.b_inv];exact .dat (.b _)
 | i k n=>rw [h.i_inv];exact .dat (.i _ _)
 | s y=>rw [h.s_inv];exact .dat (.s _)
 | lit y=>rw [h.lit_inv];exact .dat (.lit _)
 | J=>exact .dat (.J _)
 | _=>simp [V.sca]at hv
theorem Dat.sca (h:Dat I w x v)(hv:v.sca=true):Dat I' w' x v:=by
 cases v with
 | b y=>cases h;exact .b _
 | i k n=>cases h;exact .i _ _
 | s y=>cases h;exact .s _
 | lit y=>cases h;exact .lit _
 | J=>exact .J _
 | _=>simp [V.sca]at hv
theorem Rep.scaC (h:Rep φ I w x v)(hv:v.scaC=true):Rep φ' I' w' x v:=by
 cases v with
 | agg cs=>
  obtain⟨xs,rfl,hs,hr⟩:=h.agg_inv
  rw [V.scaC,List.all_eq_true]at hv
  exact .agg xs cs hs fun j x v hx hv'=>(hr j x v hx hv').sca (hv v (List.mem_of_getElem? hv'))
 | _=>exact h.sca hv
theorem Rep.scaA (h:Rep φ I w x v)(hv:v.scaA=true):Rep φ' I' w' x v:=by
 cases v with
 | tup cs=>
  obtain⟨xs,rfl,hs,hr⟩:=h.tup_inv
  rw [V.scaA,List.all_eq_true]at hv
  exact .tup xs cs hs fun j x v hx hv'=>(hr j x v hx hv').scaC (hv v (List.mem_of_getElem? hv'))
 | _=>exact h.scaC hv
end
inductive View (hp:List (Nat×Ob)) (g:Bool):V→V→Prop where
 | dat (v:V):v.datA=true→View hp g v v
 | nil (z:Nat):View hp g (.lit (.slice none 0 0)) (.sl z [])
 | own (b n z:Nat) (rs us:List (List V)):g=true→look hp b=some (.arr z rs)→n≤rs.length→rs.take n=us→View hp g (.own b n) (.sl z us)
 | agg (cs us:List V):cs.length=us.length→(∀(j:Nat) c u,cs[j]? = some c→us[j]? = some u→View hp g c u)→View hp g (.agg cs) (.agg us)
def Seen (C:Ctx)(φ:Nat→Option Blk)(w:World)(g:Bool)(k:Nat):Prop:=Imm C φ w k∨(g=true∧∃o B,φ o=some B∧B.has k)
section
variable {P:Program}{C:Ctx}{φ:Nat→Option Blk}{σ:St}{a:Act}{w:World}{o:Oper}
theorem View.sound {g:Bool}{v u:V}(hr:RR C φ σ a w)(h:View σ.hp g v u):∀{x:Value},Rep φ (Imm C φ w) w x v→Rep (fun _=>none) (Seen C φ w g) w x u:=by
 induction h with
 | dat v hv=>exact fun hx=>hx.datA hv fun k hk=>⟨.inl hk,rfl⟩
 | nil z=>intro x hx;rw [hx.lit_inv];exact .dat (.sl0 _ _ _)
 | own b n z rs us hg hb hle hu=>
  intro x hx
  subst hu
  rcases hx.own_inv with⟨rfl,rfl⟩|⟨B,hB,hcap,rfl⟩
  ·simp only [List.take_zero];exact .dat (.sl0 _ _ _)
  ·obtain⟨rfl,hrl,hok,cs,E,h1,h2,h3⟩:=hr.block hB hb
   refine .dat (.sl B.b B.off n B.cap B.z _ (fun j=>cs.getD (B.off+j) undef) (.inr ⟨hg,b,B,hB,B.self⟩) (by simp;omega) hcap (fun r hr'=>hok r (List.mem_of_mem_take hr')) (fun j hj=>?_) (fun i r hi j v hj=>?_))
   ·have hle2:n*B.z≤B.cap*B.z:=Nat.mul_le_mul_right _ hcap
    have:B.off+j<cs.size:=by omega
    simp [World.cell?,h1,Array.getD,this]
   ·have hi':rs[i]? = some r:=by
     rw [List.getElem?_take]at hi
     by_cases hin:i<n
     ·rwa [if_pos hin]at hi
     ·rw [if_neg hin]at hi;simp at hi
    obtain⟨y,hy,hd⟩:=h3 i r hi' j v hj
    have:cs.getD (B.off+(i*B.z+j)) undef=y:=by simp [Array.getD_eq_getD_getElem?,hy]
    rw [this]
    exact hd.mono fun k hk=>⟨.inl hk,rfl⟩
 | agg cs us hl _ ih=>
  intro x hx
  obtain⟨xs,rfl,hs,hc⟩:=hx.agg_inv
  refine .agg xs us (by omega) fun j y u hy hu=>?_
  have hj:j<cs.length:=by rw [←hs];exact(Array.getElem?_eq_some_iff.1 hy).1
  exact ih j cs[j] u (List.getElem?_eq_getElem hj) hu (hc j y _ hy (List.getElem?_eq_getElem hj))
def St.opsV (σ:St):List Operand→Option (List V)
 | []=>some []
 | x::r=>match σ.opd x,σ.opsV r with
  | some v,some vs=>some (v::vs)
  | _,_=>none
theorem RR.opsV (hr:RR C φ σ a w):∀(xs:List Operand) (vs:List V),σ.opsV xs=some vs→xs.length=vs.length∧∀(j:Nat) x v,xs[j]? = some x→vs[j]? = some v→Rep φ (Imm C φ w) w (a.eval x) v:=by
 intro xs
 induction xs with
 | nil=>intro vs h;simp only [St.opsV,Option.some.injEq]at h;subst h;simp
 | cons x xs ih=>
  intro vs h
  simp only [St.opsV]at h
  split at h
  ·rename_i v vs' hv hvs
   cases h
   obtain⟨h1,h2⟩:=ih vs' hvs
   refine⟨by simp [h1],fun j y u hy hu=>?_⟩
   cases j with
   | zero=>simp at hy hu;subst hy;subst hu;exact hr.opd hv
   | succ j=>exact h2 j y u hy hu
  ·cases h
inductive Qln (hp:List (Nat×Ob)) (g:Bool):List V→List V→Prop where
 | nil:Qln hp g [] []
 | cons {v u:V} {vs us:List V}:View hp g v u→Qln hp g vs us→Qln hp g (v::vs) (u::us)
theorem Qln.get {hp:List (Nat×Ob)}{g:Bool}:∀{vs us:List V},Qln hp g vs us→vs.length=us.length∧∀(j:Nat) v u,vs[j]? = some v→us[j]? = some u→View hp g v u:=by
 intro vs us h
 induction h with
 | nil=>simp
 | cons h1 _ ih=>
  refine⟨by simp [ih.1],fun j v u hv hu=>?_⟩
  cases j with
  | zero=>simp at hv hu;subst hv;subst hu;exact h1
  | succ j=>exact ih.2 j v u hv hu
def entB (P:Program)(f:FuncId):Bool:=match P.funcs[f]? with
 | some fn=>!(fn.name == "runtime.NumGoroutine")&&fn.body.isSome
 | none=>false
theorem Qgj {f:FuncId}{args:Array Value}(h:entB P f=true):(callFunc f args).run P w=.ok (.enter f args) w:=by
 unfold entB at h
 split at h
 ·rename_i fn hf
  rw [Bool.and_eq_true]at h
  have h1:(fn.name == "runtime.NumGoroutine")=false:=by simpa using h.1
  have h2:fn.body.isNone=false:=by
   cases hb:fn.body with
   | none=>rw [hb]at h;simp at h
   | some=>rfl
  simp only [callFunc,Sem.run_bind,run_program,Result.andThen_ok,hf,h1,h2]
  rfl
 ·cases h
theorem RR.called {g:Bool}{φ':Nat→Option Blk}{w':World}{x:Value}{v:V}{hs:List (Nat×Ob)}(hr:RR C φ σ a w)(ho:Outs (Seen C φ w g) (fun _=>none) w φ' w' x v hs):RR C φ σ a w':=
 hr.step ho.os ho.tape ho.output ho.size fun k hk=>ho.kept k hk fun _ _ h=>by simp at h
theorem Aft.imm {φ':Nat→Option Blk}{w':World}(hr:RR C φ σ a w){k:Nat}(hk:Aft (Seen C φ w false) φ' w w' k):Imm C φ w' k:=by
 obtain⟨h1,h2,h3⟩:=hk
 by_cases h:k<w.heap.size
 ·rcases h2 h with hI | ⟨h,_⟩
  ·exact⟨h1,hI.2.1,hI.2.2⟩
  ·cases h
 ·exact⟨h1,fun hlt=>absurd hr.size (by omega),fun o B hB e=>by have:=(hr.lt o B k hB e).1;omega⟩
def Qa2 (P:Program)(C:Ctx)(o:Oper)(σ:St)(f:FuncId)(vs:List V):Prop:=
 ∀φ a w,RR C φ σ a w→∃vals:List Value,(execOp a.eval o).run P w=.ok (.enter f vals.toArray) w∧vals.length=vs.length∧
  ∀(j:Nat) x v,vals[j]? = some x→vs[j]? = some v→Rep φ (Imm C φ w) w x v
theorem Ins.of_viewsE {g:Bool}{vs us:List V}{vals:List Value}(hr:RR C φ σ a w)(h1:vals.length=vs.length)(h2:∀(j:Nat) x v,vals[j]? = some x→vs[j]? = some v→Rep φ (Imm C φ w) w x v)(hv:Qln σ.hp g vs us):
  Ins (Seen C φ w g) (fun _=>none) w vals.toArray us []:=by
 obtain⟨h3,h4⟩:=hv.get
 refine⟨fun k hk=>?_,fun _ _ _ _ _ h=>(by cases h),fun _ _ h=>(by cases h),by simp;omega,fun j x u hx hu=>?_,fun _ _ h=>(by cases h)⟩
 ·rcases hk with hk | ⟨_,o,B,hB,hk⟩
  ·exact hk.1
  ·exact(hr.lt o B k hB hk).1
 ·have hx:vals[j]? = some x:=by simpa using hx
  have hlt:j<vs.length:=by rw [h3];exact(List.getElem?_eq_some_iff.1 hu).1
  exact View.sound hr (h4 j vs[j] u (List.getElem?_eq_getElem hlt) hu) (h2 j x _ hx (List.getElem?_eq_getElem hlt))
theorem Stp.callE {f:FuncId}{d:Nat}{g:Bool}{vs us:List V}{r:V}(hE:Qa2 P C o σ f vs)(hd:o.dst=some d)
  (hn:Nat.ble (d+1) C.n=true) (hpg:C.pg P) (hv:Qln σ.hp g vs us) (hc:Qc P f us [] fun v _=>v=r) (hres:(g=false∧r.datA=true)∨r.scaA=true):
  Stp P C o σ (σ.put d r):=by
 intro a w ⟨φ,hr⟩ next Q hnext
 refine⟨fun _ _=>trivial,?_⟩
 obtain⟨vals,hex,g1,g2⟩:=hE φ a w hr
 rw [QoU hex,Oper.uponIn_enter]
 refine⟨(fun h=>by cases h),QmI ((hc _ _ w _ (Ins.of_viewsE hr g1 g2 hv) ((hr.glob hpg).mono fun _ h=>.inl h)).mono ?_)⟩
 rintro e w' ⟨x,v,hs',φ',rfl,rfl,hout⟩
 refine hnext _ _ ⟨φ,?_⟩
 rw [hd]
 refine(hr.called hout).put (QS hn) ?_
 rcases hres with⟨rfl,hdat⟩|hsca
 ·exact hout.rep.datA hdat fun k hk=>⟨Aft.imm hr hk,rfl⟩
 ·exact hout.rep.scaA hsca
def QrZ (z:Nat)(rows:List (List V))(v:V)(hs:List (Nat×Ob)):Prop:=∃o,v=.own o rows.length∧look hs o=some (.arr z rows)
theorem Stp.callOE {f:FuncId}{d m z:Nat}{g:Bool}{vs us:List V}{rows:List (List V)}(hE:Qa2 P C o σ f vs)(hd:o.dst=some d)
  (hn:Nat.ble (d+1) C.n=true) (hpg:C.pg P) (hv:Qln σ.hp g vs us) (hc:Qc P f us [] (QrZ z rows)) (hres:g=false∨∀r∈rows,∀v∈r,v.sca=true)
  (hf:look σ.hp d=none) (hm:rows.length=m):Stp P C o σ ((σ.set d (.arr z rows)).put d (.own d m)):=by
 intro a w ⟨φ,hr⟩ next Q hnext
 subst hm
 refine⟨fun _ _=>trivial,?_⟩
 obtain⟨vals,hex,g1,g2⟩:=hE φ a w hr
 rw [QoU hex,Oper.uponIn_enter]
 refine⟨(fun h=>by cases h),QmI ((hc _ _ w _ (Ins.of_viewsE hr g1 g2 hv) ((hr.glob hpg).mono fun _ h=>.inl h)).mono ?_)⟩
 rintro e w' ⟨x,v,hs',φ',rfl,⟨oo,rfl,hlook⟩,hout⟩
 have hr':=hr.called hout
 have hN:=hr.none_of_look hf
 rw [hd]
 rcases hout.heap oo _ hlook with⟨B,hB,hrep⟩|⟨hnone,z',hz'⟩
 ·have hBn:∀k,B.has k→w.heap.size≤k:=fun k hk=>by
   rcases Nat.lt_or_ge k w.heap.size with h | h
   ·obtain⟨_,_,h2,_⟩:=(hout.lt oo B k hB hk).2 h;simp at h2
   ·exact h
  have hBlt:∀k,B.has k→k<w'.heap.size:=fun k hk=>(hout.lt oo B k hB hk).1
  have hI:∀k,Imm C φ w' k→¬B.has k→Imm C (ext φ d B) w' k∧w'.heap[k]? = w'.heap[k]? := fun k hk hne=>⟨⟨hk.1,hk.2.1,fun o' B' hB'=>by
   by_cases e:o'=d
   ·subst e;rw [QM]at hB';cases hB';exact hne
   ·rw [QG _ e]at hB';exact hk.2.2 o' B' hB'⟩,rfl⟩
  have hA:∀k,Aft (Seen C φ w g) φ' w w' k→¬B.has k:=fun k hk=>hk.2.2 oo B hB
  obtain⟨hz,hrl,hok,cs,E,h1,h2,h3⟩:=hrep
  have hmono:=hr'.mono_ext B hN
  have hI0:∀k,Imm C φ w k→Imm C (ext φ d B) w' k∧w'.heap[k]? = w.heap[k]? := fun k hk=>
   ⟨(hI k ⟨Nat.lt_of_lt_of_le hk.1 hout.size,hk.2⟩ (fun hh=>by have:=hk.1;have:=hBn k hh;omega)).1,hout.kept k hk.1 fun _ _ h=>by simp at h⟩
  have hset:RR C (ext φ d B) (σ.set d (.arr z rows)) a w':=by
   refine⟨hr'.os,hr'.tape,hr'.output,hr'.size,hr'.kept,?_,?_,?_,?_,⟨?_,fun o' ob' B1 hge ho' hB1=>by have:=C.slot hn;rw [QG _ (by omega)];exact hr'.stay.2 o' ob' B1 hge (by rwa [σ.look_set_other _ (by omega)]at ho') hB1⟩,hr'.tmps,hr.defers.mono hI0,?_,?_⟩
   ·intro o1 o2 B1 B2 k e1 e2 hb hb'
    by_cases g1:o1=d<;>by_cases g2:o2=d
    ·rw [g1,g2]
    ·subst g1;rw [QM]at e1;cases e1;rw [QG _ g2]at e2
     have:=(hr.lt o2 B2 k e2 hb').1;have:=hBn k hb;omega
    ·subst g2;rw [QM]at e2;cases e2;rw [QG _ g1]at e1
     have:=(hr.lt o1 B1 k e1 hb).1;have:=hBn k hb';omega
    ·rw [QG _ g1]at e1;rw [QG _ g2]at e2;exact hr.inj o1 o2 B1 B2 k e1 e2 hb hb'
   ·intro o' B' hB'
    by_cases e:o'=d
    ·subst e;exact⟨_,σ.look_set_same _ _⟩
    ·rw [QG _ e]at hB';obtain⟨ob',h'⟩:=hr.dom o' B' hB';exact⟨ob',by rw [σ.look_set_other _ (Ne.symm e)];exact h'⟩
   ·intro o' B' k hB' hk
    by_cases e:o'=d
    ·subst e;rw [QM]at hB';cases hB';exact⟨hBlt k hk,fun hlt=>absurd hr.size (by have:=hBn k hk;omega)⟩
    ·rw [QG _ e]at hB';exact hr'.lt o' B' k hB' hk
   ·intro o' B' k hB' hk hlt
    by_cases e:o'=d
    ·subst e;rw [QM]at hB';cases hB';exact Nat.le_trans hr.size (hBn k hk)
    ·rw [QG _ e]at hB';exact hr'.new o' B' k hB' hk hlt
   ·intro o' B' hge hB'
    have:=C.slot hn
    rw [QG _ (by omega)]at hB';exact hr'.stay.1 o' B' hge hB'
   ·intro t u hu
    obtain⟨y,hy,hrep⟩:=hr.frame t u hu
    exact⟨y,hy,hrep.mono hmono hI0⟩
   ·intro o' ob' ho'
    by_cases e:o'=d
    ·subst e;rw [σ.look_set_same]at ho';cases ho'
     refine .inl ⟨B,QM _ _ _,hz,hrl,hok,cs,E,h1,h2,fun i r hi j v hj=>?_⟩
     obtain⟨y,hy,hD⟩:=h3 i r hi j v hj
     refine⟨y,hy,?_⟩
     rcases hres with rfl | hsc
     ·exact hD.mono fun k hk=>hI k (Aft.imm hr hk) (hA k hk)
     ·exact hD.sca (hsc r (List.mem_of_getElem? hi) v (List.mem_of_getElem? hj))
    ·rw [σ.look_set_other _ (Ne.symm e)]at ho'
     rcases hr.heap o' ob' ho' with⟨B',hB',hrep'⟩|⟨e1,e2⟩
     ·exact .inl ⟨B',by rw [QG _ e];exact hB',hrep'.mono hmono hI0 fun k hk=>hout.kept _ (hr.lt o' B' k hB' hk).1 fun _ _ h=>by simp at h⟩
     ·exact .inr ⟨by rw [QG _ e];exact e1,e2⟩
  refine hnext _ _ ⟨ext φ d B,hset.put (QS hn) ?_⟩
  rcases hout.rep.own_inv with⟨rfl,h0⟩|⟨B',hB',hcap,rfl⟩
  ·rw [h0];exact .own0 d
  ·rw [hB]at hB';cases hB';exact .own d _ B (QM _ _ _) hcap
 ·cases hz'
  refine hnext _ _ ⟨φ,(hr'.setNil (C.slot hn) hf).put (QS hn) ?_⟩
  rcases hout.rep.own_inv with⟨rfl,h0⟩|⟨B',hB',_,_⟩
  ·exact .own0 d
  ·rw [hnone]at hB';cases hB'
end
end Go.Vm
