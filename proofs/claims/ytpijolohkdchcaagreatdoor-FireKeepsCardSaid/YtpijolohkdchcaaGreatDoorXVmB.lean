/- A part of the proof; what it holds is told at each theorem. -/
import Derived.Test.YtpijolohkdchcaaGreatDoorXVmA
set_option linter.unusedVariables false
set_option linter.unusedSimpArgs false
set_option linter.unusedSectionVars false
set_option linter.deprecated false
namespace Go.Vm
open Go Go.RowKit
inductive Runs {σ ρ:Type} (body:σ→Option (σ⊕ρ)):σ→ρ→Prop where
 | done {s:σ} {r:ρ}:body s=some (.inr r)→Runs body s r
 | next {s s':σ} {r:ρ}:body s=some (.inl s')→Runs body s' r→Runs body s r
theorem Runs.det {σ ρ:Type}{body:σ→Option (σ⊕ρ)}{s:σ}{r r':ρ}(h:Runs body s r)(h':Runs body s r'):r=r':=by
 induction h with
 | done h=>cases h' with
  | done h2=>rw [h]at h2;cases h2;rfl
  | next h2 _=>rw [h]at h2;cases h2
 | next h _ ih=>cases h' with
  | done h2=>rw [h]at h2;cases h2
  | next h2 h3=>rw [h]at h2;cases h2;exact ih h3
def loopN {σ ρ:Type}(body:σ→Option (σ⊕ρ)):Nat→σ→Option ρ
 | 0,_=>none
 | n+1,s=>match body s with
  | none=>none
  | some (.inl s')=>loopN body n s'
  | some (.inr r)=>some r
theorem QsS {σ ρ:Type}{body:σ→Option (σ⊕ρ)}{r:ρ}:∀(n:Nat) (s:σ),loopN body n s=some r→Runs body s r:=by
 intro n
 induction n with
 | zero=>intro s h;cases h
 | succ n ih=>
  intro s h
  rw [loopN]at h
  split at h
  ·cases h
  ·rename_i s' hb;exact .next hb (ih s' h)
  ·rename_i r' hb;cases h;exact .done hb
open Classical in
noncomputable def QE {σ ρ:Type}(body:σ→Option (σ⊕ρ))(s:σ):Option ρ:=match loopN body 5000 s with
 | some r=>some r
 | none=>if h:∃r,Runs body s r then some h.choose else none
theorem Qmh {σ ρ:Type}{body:σ→Option (σ⊕ρ)}{s:σ}{r:ρ}:QE body s=some r↔Runs body s r:=by
 unfold QE
 split
 ·rename_i r' hr
  have h0:=QsS _ _ hr
  exact⟨fun h=>by cases h;exact h0,fun h=>congrArg some (h0.det h)⟩
 ·constructor
  ·intro h
   split at h
   ·rename_i hx;cases h;exact hx.choose_spec
   ·cases h
  ·intro h
   rw [dif_pos ⟨r,h⟩]
   exact congrArg some ((Exists.choose_spec (⟨r,h⟩:∃r,Runs body s r)).det h)
theorem Qdl {σ ρ:Type}(body:σ→Option (σ⊕ρ))(s:σ):
  QE body s=(body s).bind fun x=>match x with | .inl s'=>QE body s' | .inr r=>some r:=by
 apply Option.ext
 intro r
 rw [Qmh]
 constructor
 ·intro h
  cases h with
  | done h=>simp [h]
  | next h h'=>simp [h,Qmh.2 h']
 ·intro h
  cases hb:body s with
  | none=>simp [hb]at h
  | some x=>
   cases x with
   | inl s'=>simp [hb]at h;exact .next hb (Qmh.1 h)
   | inr r'=>simp [hb]at h;subst h;exact .done hb
theorem Qqb {P:Program}{ro:Option Nat}{ρ:Operand→Value}{o:Oper}{w w':World}{v:Value}(h:(execOp ρ o).run P w=.ok (.value v) w'):(o.semAt ro ρ).run P w=.ok (.value v) w':=by
 have hn:∀c,o.op≠.defer c:=fun c e=>by
  simp only [execOp,e,Sem.run_bind]at h
  cases hr:(resolve ρ c o.type).run P w<;>rw [hr]at h<;>simp [Result.andThen]at h
 rwa [Oper.semAt_eq _ _ _ hn]
theorem QuY {P:Program}{ro:Option Nat}{ρ:Operand→Value}{o:Oper}{w w':World}(h:(execOp ρ o).run P w=.ok .skip w'):(o.semAt ro ρ).run P w=.ok .skip w':=by
 have hn:∀c,o.op≠.defer c:=fun c e=>by
  simp only [execOp,e,Sem.run_bind]at h
  cases hr:(resolve ρ c o.type).run P w<;>rw [hr]at h<;>simp [Result.andThen]at h
 rwa [Oper.semAt_eq _ _ _ hn]
theorem QoU {P:Program}{ro:Option Nat}{ρ:Operand→Value}{o:Oper}{w w':World}{f:FuncId}{xs:Array Value}(h:(execOp ρ o).run P w=.ok (.enter f xs) w'):(o.semAt ro ρ).run P w=.ok (.enter f xs) w':=by
 have hn:∀c,o.op≠.defer c:=fun c e=>by
  simp only [execOp,e,Sem.run_bind]at h
  cases hr:(resolve ρ c o.type).run P w<;>rw [hr]at h<;>simp [Result.andThen]at h
 rwa [Oper.semAt_eq _ _ _ hn]
theorem QmI {C:Ctx}{n:Nat}{P:Program}{f:FuncId}{args:Array Value}{w:World}{R:Ending→World→Prop}(h:Calls P f args w R):CallsIn C.F n P f args w R:=
 (callsIn_wide (n:=n)).2 h
def up (C:Ctx)(Q:Exit→St→Prop):Exit→Act→World→Prop:=fun e a w=>∃σ,Q e σ∧R C σ a w
def AWp (P:Program)(C:Ctx)(c:Code)(σ:St)(Q:Exit→St→Prop):Prop:=∀a w,R C σ a w→c.wpIn C.F 0 P (up C Q) a w
def Qm5 (K:St→Prop)(Q:Exit→St→Prop):Exit→St→Prop
 | .normal,σ=>K σ
 | e,σ=>Q e σ
def Qlw (id:Nat)(Q:Exit→St→Prop):Exit→St→Prop
 | .exit id',σ=>bif Nat.beq id' id then Q .normal σ else Q (.exit id') σ
 | e,σ=>Q e σ
section
variable {P:Program}{C:Ctx}{σ:St}{Q:Exit→St→Prop}
theorem AWp.mono {c:Code}{Q':Exit→St→Prop}(h:AWp P C c σ Q)(hq:∀e σ,Q e σ→Q' e σ):AWp P C c σ Q':=
 fun a w hR=>wpIn_mono (h a w hR) fun e a w ⟨σ,h1,h2⟩=>⟨σ,hq e σ h1,h2⟩
theorem AWp.seq {x y:Code}(h:AWp P C x σ (Qm5 (fun σ'=>AWp P C y σ' Q) Q)):AWp P C (.seq x y) σ Q:=by
 intro a w hR
 refine wpIn_seq (wpIn_mono (h a w hR) ?_)
 rintro e a' w' ⟨σ',hq,hR'⟩
 cases e with
 | normal=>exact hq a' w' hR'
 | _=>exact⟨σ',hq,hR'⟩
theorem AWp.cond_true {c:Operand}{x y:Code}(hc:σ.opd c=some (.b true))(h:AWp P C x σ Q):AWp P C (.cond c x y) σ Q:=
 fun a w hR=>let ⟨_,hr⟩:=hR;wpIn_cond_true (hr.opd hc).b_inv (h a w hR)
theorem AWp.cond_false {c:Operand}{x y:Code}(hc:σ.opd c=some (.b false))(h:AWp P C y σ Q):AWp P C (.cond c x y) σ Q:=
 fun a w hR=>let ⟨_,hr⟩:=hR;wpIn_cond_false (hr.opd hc).b_inv (h a w hR)
theorem AWp.condT {c:Operand}{x y:Code}{t:Bool}(hc:σ.opd c=some (.b t))(ht:t=true)(h:AWp P C x σ Q):AWp P C (.cond c x y) σ Q:=
 AWp.cond_true (ht▸hc) h
theorem AWp.condF {c:Operand}{x y:Code}{t:Bool}(hc:σ.opd c=some (.b t))(ht:t=false)(h:AWp P C y σ Q):AWp P C (.cond c x y) σ Q:=
 AWp.cond_false (ht▸hc) h
theorem AWp.skip (h:Q .normal σ):AWp P C .skip σ Q:=fun a w hR=>wpIn_skip ⟨σ,h,hR⟩
theorem AWp.exit {id:Nat}(h:Q (.exit id) σ):AWp P C (.exit id) σ Q:=fun a w hR=>wpIn_exit ⟨σ,h,hR⟩
theorem AWp.ret (h:Q .ret σ):AWp P C .ret σ Q:=fun a w hR=>wpIn_ret ⟨σ,h,hR⟩
theorem AWp.label {l:Nat}(h:Q .normal σ):AWp P C (.label l) σ Q:=fun a w hR=>wpIn_label ⟨σ,h,hR⟩
theorem AWp.block {id:Nat}{c:Code}(h:AWp P C c σ (Qlw id Q)):AWp P C (.block id c) σ Q:=by
 intro a w hR
 refine wpIn_block (wpIn_mono (h a w hR) ?_)
 rintro e a' w' ⟨σ',hq,hR'⟩
 cases e with
 | exit id'=>
  simp only [Exit.inBlock,Qlw]at *
  cases hb:Nat.beq id' id with
  | true=>rw [hb]at hq;rw [if_pos (Nat.eq_of_beq_eq_true hb)];exact⟨σ',hq,hR'⟩
  | false=>rw [hb]at hq;rw [if_neg (fun e=>by subst e;simp at hb)];exact⟨σ',hq,hR'⟩
 | _=>exact⟨σ',hq,hR'⟩
theorem AWp.weaken {c:Code}{σ':St}(h:∀a w,R C σ a w→R C σ' a w)(k:AWp P C c σ' Q):AWp P C c σ Q:=fun a w hR=>k a w (h a w hR)
theorem inBE {id id':Nat}(he:Nat.beq id' id=true)(h:Q .normal σ):Qlw id Q (.exit id') σ:=by
 show(bif Nat.beq id' id then _ else _);rw [he];exact h
theorem inBX {id id':Nat}(he:Nat.beq id' id=false)(h:Q (.exit id') σ):Qlw id Q (.exit id') σ:=by
 show(bif Nat.beq id' id then _ else _);rw [he];exact h
theorem AWp.seqK {x y:Code}(K:St→Prop)(hx:AWp P C x σ (Qm5 K Q))(hy:∀σ',K σ'→AWp P C y σ' Q):AWp P C (.seq x y) σ Q:=
 AWp.seq (hx.mono fun e σ' h=>by cases e<;>first | exact hy σ' h | exact h)
theorem AWp.cut {x:Code}(K:St→Prop)(hx:AWp P C x σ (Qm5 K Q))(hy:∀σ',K σ'→Q .normal σ'):AWp P C x σ Q:=
 hx.mono fun e σ' h=>by cases e<;>first | exact hy σ' h | exact h
theorem AWp.loop {τ ρ:Type}{body:τ→Option (τ⊕ρ)}{c:Code}(E:τ→St→Prop)(Post:ρ→Exit→St→Prop){s0:τ}{r:ρ}
  (round:∀s o σ,E s σ→body s=some o→AWp P C c σ (Qm5 (fun σ'=>∃s',o=.inl s'∧E s' σ') (fun e σ'=>∃r,o=.inr r∧Post r e σ')))
  (hr:Runs body s0 r) (h0:E s0 σ) (hQ:∀e σ',Post r e σ'→Q e σ'):AWp P C (.loop c) σ Q:=by
 have key:∃n,∀σ a w,E s0 σ→R C σ a w→Code.roundsIn C.F 0 P c (up C Q) n a w:=by
  clear h0
  induction hr with
  | done hb=>
   refine⟨1,fun σ a w hE hR=>?_⟩
   rw [roundsIn_succ]
   refine wpIn_mono (round _ _ σ hE hb a w hR) ?_
   rintro e a' w' ⟨σ',hq,hR'⟩
   cases e with
   | normal=>obtain⟨s',h,_⟩:=hq;cases h
   | _=>obtain⟨r,h,hp⟩:=hq;cases h;exact⟨σ',hQ _ _ hp,hR'⟩
  | next hb hn ih=>
   obtain⟨n,hn⟩:=ih hQ
   refine⟨n+1,fun σ a w hE hR=>?_⟩
   rw [roundsIn_succ]
   refine wpIn_mono (round _ _ σ hE hb a w hR) ?_
   rintro e a' w' ⟨σ',hq,hR'⟩
   cases e with
   | normal=>obtain⟨s',h,hE'⟩:=hq;cases h;exact hn σ' a' w' hE' hR'
   | _=>obtain⟨r,h,hp⟩:=hq;cases h
 obtain⟨n,hn⟩:=key
 exact fun a w hR=>wpIn_loop_rounds n (hn σ a w h0 hR)
end
def AL (P:Program)(C:Ctx)(ops:Array Oper)(l:List Oper)(σ:St)(Q:Exit→St→Prop):Prop:=∀a w,R C σ a w→wpListIn C.F 0 P ops (up C Q) l a w
def Stp (P:Program)(C:Ctx)(o:Oper)(σ σ':St):Prop:=
 ∀a w,R C σ a w→∀(next:Act→World→Prop) (Q:Exit→Act→World→Prop),(∀a' w',R C σ' a' w'→next a' w')→o.wpIn C.F 0 P a w next Q
section
variable {P:Program}{C:Ctx}{ops:Array Oper}{σ σ':St}{Q:Exit→St→Prop}{o:Oper}{rest:List Oper}
theorem AWp.region {id:Nat}(h:AL P C ops ops.toList σ Q):AWp P C (.region id ops false) σ Q:=by
 intro a w hR
 exact wpIn_region_list (h a w hR)
theorem AL.nil (h:Q .normal σ):AL P C ops [] σ Q:=fun a w hR=>⟨σ,h,hR⟩
theorem AL.weaken (h:∀a w,R C σ a w→R C σ' a w)(k:AL P C ops rest σ' Q):AL P C ops rest σ Q:=fun a w hR=>k a w (h a w hR)
theorem AL.cons (hg:o.guard=none)(h:Stp P C o σ σ')(k:AL P C ops rest σ' Q):AL P C ops (o::rest) σ Q:=by
 intro a w hR
 simp only [wpListIn,Region.wanted,hg,if_true]
 exact(h a w hR _ _ fun a' w' hR'=>k a' w' hR')
theorem R.yielded {a:Act}{w:World}(hR:R C σ a w){j d:Nat}{t:Bool}(hj:((ops[j]?).bind (·.dst))=some d)(hv:look σ.fr d=some (.b t)):yielded ops a.tmps j=some t:=by
 obtain⟨φ,hr⟩:=hR
 obtain⟨x,hx,hrep⟩:=hr.frame d _ hv
 rw [hrep.b_inv]at hx
 simp [Go.yielded,hj,hx]
theorem AL.consG {j d:Nat}{t:Bool}(hg:o.guard=some (j,t))(hj:((ops[j]?).bind (·.dst))=some d)(hv:look σ.fr d=some (.b t))(h:Stp P C o σ σ')(k:AL P C ops rest σ' Q):
  AL P C ops (o::rest) σ Q:=by
 intro a w hR
 simp only [wpListIn,Region.wanted,hg,hR.yielded hj hv]
 simp only [beq_self_eq_true,if_true]
 exact(h a w hR _ _ fun a' w' hR'=>k a' w' hR')
theorem AL.consGT {j d:Nat}{c t:Bool}(hg:o.guard=some (j,t))(hj:((ops[j]?).bind (·.dst))=some d)(hv:look σ.fr d=some (.b c))(hc:c=t)(h:Stp P C o σ σ')(k:AL P C ops rest σ' Q):
  AL P C ops (o::rest) σ Q:=AL.consG hg hj (hc▸hv) h k
theorem AL.consN {j d t:Nat}{u:Bool}(hg:o.guard=some (j,!u))(hj:((ops[j]?).bind (·.dst))=some d)(hv:look σ.fr d=some (.b u))(ho:o.dst=some t)(ht:t<C.n)
  (k:AL P C ops rest (σ.put t (.lit undef)) Q):AL P C ops (o::rest) σ Q:=by
 intro a w hR
 simp only [wpListIn,Region.wanted,hg,hR.yielded hj hv]
 rw [if_neg (by cases u<;>decide)]
 refine⟨fun _ _=>trivial,k _ _ ?_⟩
 obtain⟨φ,hr⟩:=hR
 rw [ho]
 exact⟨φ,hr.put ht (.dat (.lit _))⟩
theorem AL.consN0 {j d:Nat}{u:Bool}(hg:o.guard=some (j,!u))(hj:((ops[j]?).bind (·.dst))=some d)(hv:look σ.fr d=some (.b u))(ho:o.dst=none)
  (k:AL P C ops rest σ Q):AL P C ops (o::rest) σ Q:=by
 intro a w hR
 simp only [wpListIn,Region.wanted,hg,hR.yielded hj hv]
 rw [if_neg (by cases u<;>decide)]
 refine⟨fun _ _=>trivial,k _ _ ?_⟩
 rw [ho]
 exact hR
theorem AL.consNT {j d t:Nat}{c u:Bool}(hg:o.guard=some (j,u))(hj:((ops[j]?).bind (·.dst))=some d)(hv:look σ.fr d=some (.b c))(hc:c=!u)(ho:o.dst=some t)(ht:Nat.ble (t+1) C.n=true)
  (k:AL P C ops rest (σ.put t (.lit undef)) Q):AL P C ops (o::rest) σ Q:=
 AL.consN (u:=!u) (by rw [hg];simp) hj (hc▸hv) ho (Nat.le_of_ble_eq_true ht) k
theorem AL.consNT0 {j d:Nat}{c u:Bool}(hg:o.guard=some (j,u))(hj:((ops[j]?).bind (·.dst))=some d)(hv:look σ.fr d=some (.b c))(hc:c=!u)(ho:o.dst=none)
  (k:AL P C ops rest σ Q):AL P C ops (o::rest) σ Q:=
 AL.consN0 (u:=!u) (by rw [hg];simp) hj (hc▸hv) ho k
theorem R.unyielded {a:Act}{w:World}(hR:R C σ a w){j d:Nat}(hj:((ops[j]?).bind (·.dst))=some d)(hv:look σ.fr d=some (.lit undef)):Go.yielded ops a.tmps j=none:=by
 obtain⟨φ,hr⟩:=hR
 obtain⟨x,hx,hrep⟩:=hr.frame d _ hv
 rw [hrep.lit_inv]at hx
 simp [Go.yielded,hj,hx,undef]
theorem AL.consU {j d t:Nat}{u:Bool}(hg:o.guard=some (j,u))(hj:((ops[j]?).bind (·.dst))=some d)(hv:look σ.fr d=some (.lit undef))(ho:o.dst=some t)(ht:Nat.ble (t+1) C.n=true)
  (k:AL P C ops rest (σ.put t (.lit undef)) Q):AL P C ops (o::rest) σ Q:=by
 intro a w hR
 simp only [wpListIn,Region.wanted,hg,hR.unyielded hj hv]
 rw [if_neg (by simp)]
 refine⟨fun _ _=>trivial,k _ _ ?_⟩
 obtain⟨φ,hr⟩:=hR
 rw [ho]
 exact⟨φ,hr.put (Nat.le_of_ble_eq_true ht) (.dat (.lit _))⟩
theorem AL.consU0 {j d:Nat}{u:Bool}(hg:o.guard=some (j,u))(hj:((ops[j]?).bind (·.dst))=some d)(hv:look σ.fr d=some (.lit undef))(ho:o.dst=none)
  (k:AL P C ops rest σ Q):AL P C ops (o::rest) σ Q:=by
 intro a w hR
 simp only [wpListIn,Region.wanted,hg,hR.unyielded hj hv]
 rw [if_neg (by simp)]
 refine⟨fun _ _=>trivial,k _ _ ?_⟩
 rw [ho]
 exact hR
theorem Stp.val (h:∀φ a w,RR C φ σ a w→∃x w' φ',(execOp a.eval o).run P w=.ok (.value x) w'∧RR C φ' σ' (a.put o.dst x) w'):Stp P C o σ σ':=by
 intro a w ⟨φ,hr⟩ next Q hn
 obtain⟨x,w',φ',he,hr'⟩:=h φ a w hr
 refine⟨fun _ _=>trivial,?_⟩
 rw [Qqb he]
 exact hn _ _ ⟨φ',hr'⟩
theorem Stp.skp (h:∀φ a w,RR C φ σ a w→∃w' φ',(execOp a.eval o).run P w=.ok .skip w'∧RR C φ' σ' (a.put o.dst undef) w'):Stp P C o σ σ':=by
 intro a w ⟨φ,hr⟩ next Q hn
 obtain⟨w',φ',he,hr'⟩:=h φ a w hr
 refine⟨fun _ _=>trivial,?_⟩
 rw [QuY he]
 exact hn _ _ ⟨φ',hr'⟩
end
end Go.Vm
