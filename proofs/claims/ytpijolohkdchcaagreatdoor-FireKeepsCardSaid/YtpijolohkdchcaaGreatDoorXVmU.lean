/- A part of the proof; what it holds is told at each theorem. -/
import Derived.Test.YtpijolohkdchcaaGreatDoorXVmV
import Derived.Carry
import Derived.ReadAgain
import Derived.OpenShut
import GoSem.ClaimJoined
set_option linter.unusedVariables false
set_option linter.unusedSimpArgs false
set_option linter.unusedSectionVars false
set_option linter.deprecated false
namespace Go.Vm
open Go Go.RowKit
def Cl (w:World)(cs:List Value)(vs:List V):Prop:=cs.length=vs.length∧∀(j:Nat) c v,cs[j]? = some c→vs[j]? = some v→Dat (fun k=>k<w.heap.size) w c v
theorem Cl.nil {w:World}:Cl w [] []:=⟨rfl,fun j c v h _=>by simp at h⟩
theorem Cl.one {w:World}{c:Value}{v:V}(h:Dat (fun k=>k<w.heap.size) w c v):Cl w [c] [v]:=⟨rfl,fun j c' v' h1 h2=>by
 match j with
 | 0=>simp at h1 h2;subst h1;subst h2;exact h
 | j+1=>simp at h1⟩
theorem Cl.append {w:World}{a b:List Value}{u v:List V}(h1:Cl w a u)(h2:Cl w b v):Cl w (a++b) (u++v):=by
 refine⟨by simp [h1.1,h2.1],fun j c x hc hx=>?_⟩
 by_cases hj:j<a.length
 ·rw [List.getElem?_append_left hj]at hc
  rw [List.getElem?_append_left (by rw [←h1.1];exact hj)]at hx
  exact h1.2 j c x hc hx
 ·rw [List.getElem?_append_right (by omega)]at hc
  rw [List.getElem?_append_right (by rw [←h1.1];omega)]at hx
  rw [←h1.1]at hx
  exact h2.2 _ c x hc hx
def Rd {H α:Type}(enc:TypeId×Value→H)(P:Program)(w:World)(N:Nat)(t:TypeId)(row:α→List V)(wf:α→DataW H→Prop):Prop:=
 ∀(fuel:Nat) (cs:List Value) (d:DataW H) (ps:List MemPlace),fuel≤N→DataW.trod enc P w 0 (fun _=>true) true fuel t cs=some (d,ps)→∃x,wf x d∧Cl w cs (row x)
def RdF {H α:Type}(enc:TypeId×Value→H)(P:Program)(w:World)(N:Nat)(off tot:Nat)(fs:List (Nat×Nat))(row:α→List V)(wf:α→List (DataW H)→Prop):Prop:=
 ∀(fuel:Nat) (cs:List Value) (xs:List (DataW H×List MemPlace)),fuel≤N→cs.length=off+tot→(fs.mapM fun f=>DataW.trod enc P w 0 (fun _=>true) true fuel f.1 ((cs.drop f.2).take (P.cellsOf f.1)))=some xs→
  ∃x,wf x (xs.map Prod.fst)∧Cl w (cs.drop off) (row x)
section
variable {H:Type}{enc:TypeId×Value→H}{P:Program}{w:World}{N:Nat}{t:TypeId}
theorem Rd.mono {α:Type}{M:Nat}{row:α→List V}{wf:α→DataW H→Prop}(h:Rd enc P w N t row wf)(hM:M≤N):Rd enc P w M t row wf:=fun fuel cs d ps hf e=>h fuel cs d ps (Nat.le_trans hf hM) e
theorem Rd.zero {α:Type}{row:α→List V}{wf:α→DataW H→Prop}:Rd enc P w 0 t row wf:=fun fuel cs d ps hf e=>by
 have:fuel=0:=by omega
 subst this
 simp [DataW.trod]at e
theorem Rd.map {α β:Type}{row:α→List V}{wf:α→DataW H→Prop}{row':β→List V}{wf':β→DataW H→Prop}(g:α→β)(h:Rd enc P w N t row wf)(hr:∀x,row x=row' (g x))(hw:∀x d,wf x d→wf' (g x) d):Rd enc P w N t row' wf':=fun fuel cs d ps hf e=>by
 obtain⟨x,h1,h2⟩:=h fuel cs d ps hf e
 exact⟨g x,hw x d h1,by rw [←hr];exact h2⟩
theorem Rd.int {k:IntKind}(ht:P.underlying t=some (.int k)):Rd enc P w N t (fun n:Int=>[V.i k n]) (fun n d=>(Lit.int k n).wf=true∧d=.lit (.int k n)):=by
 intro fuel cs d ps _ e
 cases fuel with
 | zero=>simp [DataW.trod]at e
 | succ fuel=>
  simp only [DataW.trod,ht]at e
  split at e
  all_goals first | (cases e;done) | (rename_i hq;cases hq;done) | skip
  rename_i hq
  cases hq
  split at e
  ·rename_i hc
   obtain⟨rfl,hwf⟩:=hc
   cases e
   exact⟨_,⟨hwf,rfl⟩,Cl.one (.i _ _)⟩
  ·cases e
theorem Rd.bool (ht:P.underlying t=some .bool):Rd enc P w N t (fun n:Bool=>[V.b n]) (fun n d=>d=.lit (.bool n)):=by
 intro fuel cs d ps _ e
 cases fuel with
 | zero=>simp [DataW.trod]at e
 | succ fuel=>
  simp only [DataW.trod,ht]at e
  split at e
  all_goals first | (cases e;done) | (rename_i hq;cases hq;done) | skip
  cases e
  exact⟨_,rfl,Cl.one (.b _)⟩
theorem Rd.string (ht:P.underlying t=some .string):Rd enc P w N t (fun n:ByteArray=>[V.s n]) (fun n d=>n.size≤maxLen∧d=.lit (.string n.data.toList)):=by
 intro fuel cs d ps _ e
 cases fuel with
 | zero=>simp [DataW.trod]at e
 | succ fuel=>
  simp only [DataW.trod,ht]at e
  split at e
  all_goals first | (cases e;done) | (rename_i hq;cases hq;done) | skip
  split at e
  ·rename_i hc
   cases e
   exact⟨_,⟨hc,rfl⟩,Cl.one (.s _)⟩
  ·cases e
theorem Qvm {α:Type}{Q:Nat→α→Prop}:∀n:Nat,(∀i,i<n→∃x,Q i x)→∃l:List α,l.length=n∧∀i x,l[i]? = some x→Q i x:=by
 intro n
 induction n with
 | zero=>intro _;exact⟨[],rfl,fun i x h=>by simp at h⟩
 | succ n ih=>
  intro h
  obtain⟨l,h1,h2⟩:=ih fun i hi=>h i (by omega)
  obtain⟨x,hx⟩:=h n (by omega)
  refine⟨l++[x],by simp [h1],fun i y hy=>?_⟩
  by_cases hi:i<l.length
  ·rw [List.getElem?_append_left hi]at hy;exact h2 i y hy
  ·have:=(List.getElem?_eq_some_iff.1 hy).1
   simp at this
   have:i=l.length:=by omega
   subst this
   simp at hy;subst hy;rw [h1];exact hx
def wfL {α:Type}(wf:α→DataW H→Prop)(l:List α)(d:DataW H):Prop:=l.length≤maxLen∧((d=.nil∧l=[])∨∃es sp,d=.slice es sp∧es.length=l.length∧∀(i:Nat) x e,l[i]? = some x→es[i]? = some e→wf x e)
theorem Rd.slice {α:Type}{e z:Nat}{row:α→List V}{wf:α→DataW H→Prop}(ht:P.underlying t=some (.slice e))(hz:P.cellsOf e=z)(hz0:0<z)(hrow:∀x,QjA z (row x))(he:Rd enc P w N e row wf):
  Rd enc P w N t (fun l:List α=>[V.sl z (l.map row)]) (wfL wf):=by
 subst hz
 intro fuel cs d ps hN h
 cases fuel with
 | zero=>simp [DataW.trod]at h
 | succ fuel=>
  simp only [DataW.trod,ht]at h
  split at h
  all_goals first | (cases h;done) | (rename_i hq;cases hq;done) | skip
  ·cases h;exact⟨[],⟨Nat.zero_le _,.inl ⟨rfl,rfl⟩⟩,Cl.one (.sl0 _ _ _)⟩
  ·rename_i a len cap hq
   cases hq
   split at h
   ·rename_i hc
    obtain⟨_,hlc,hcm⟩:=hc
    obtain⟨elems,hel,h⟩:=Option.bind_eq_some_iff.1 h
    obtain⟨rest,_,h⟩:=Option.map_eq_some_iff.1 h
    have hlen:elems.length=len:=by simpa using mapM_some_length hel
    have hat:∀i,i<len→∃y rc,elems[i]? = some y∧w.cells? 0 (a.add (i*P.cellsOf e)) (P.cellsOf e)=some rc∧DataW.trod enc P w 0 (fun _=>true) true fuel e rc=some y:=fun i hi=>by
     have:=mapM_some_get hel i i (by simp [hi])
     obtain⟨y,hy⟩:∃y,elems[i]? = some y:=⟨_,List.getElem?_eq_getElem (by omega)⟩
     rw [hy]at this
     obtain⟨rc,h1,h2⟩:=Option.bind_eq_some_iff.1 this
     exact⟨y,rc,hy,h1,h2⟩
    obtain⟨l,hl,hQ⟩:=Qvm (Q:=fun i x=>∃y rc,elems[i]? = some y∧w.cells? 0 (a.add (i*P.cellsOf e)) (P.cellsOf e)=some rc∧wf x y.1∧Cl w rc (row x)) len fun i hi=>by
     obtain⟨y,rc,h1,h2,h3⟩:=hat i hi
     obtain⟨x,h4,h5⟩:=he fuel rc y.1 y.2 (by omega) h3
     exact⟨x,y,rc,h1,h2,h4,h5⟩
    have hd:d=.slice (elems.map (·.1)) (rest.map (·.1)):=by cases h;rfl
    refine⟨l,⟨by omega,.inr ⟨_,_,hd,by simp [hl,hlen],fun i x e' hx he'=>?_⟩⟩,Cl.one ?_⟩
    ·obtain⟨y,rc,h1,_,h3,_⟩:=hQ i x hx
     rw [List.getElem?_map,h1]at he'
     cases he';exact h3
    ·by_cases h0:len=0
     ·have:l=[]:=List.length_eq_zero_iff.1 (by omega)
      subst this;subst h0;exact .sl0 _ _ _
     ·obtain⟨b,off,spot⟩:=a
      obtain⟨y0,rc0,_,h02,_⟩:=hat 0 (by omega)
      have hs:spot=none:=by
       obtain⟨_,h2,h3⟩:=World.cells?_some h02
       have h4:=h3 0 hz0
       obtain⟨c0,hc0⟩:∃c0,rc0[0]? = some c0:=⟨_,List.getElem?_eq_getElem (by omega)⟩
       rw [hc0]at h4
       simpa [Addr.add] using World.cell?_spot h4
      subst hs
      have hb:b<w.heap.size:=by
       have hb:=World.cells?_block h02 hz0
       rwa [WideShapes.add_plain]at hb
      have hcell:∀i,i<len→∀rc,w.cells? 0 ((⟨b,off,none⟩:Addr).add (i*P.cellsOf e)) (P.cellsOf e)=some rc→rc.length=P.cellsOf e∧∀j,j<P.cellsOf e→w.cell? ⟨b,off+(i*P.cellsOf e+j),none⟩=rc[j]? := fun i hi rc h=>by
       obtain⟨_,h2,h3⟩:=World.cells?_some h
       refine⟨h2,fun j hj=>?_⟩
       have:=h3 j hj
       rw [WideShapes.add_plain,WideShapes.add_plain]at this
       rw [←Nat.add_assoc];exact this
      refine .sl b off len cap (P.cellsOf e) (l.map row) (fun j=>(w.cell? ⟨b,off+j,none⟩).getD undef) hb (by simp [hl]) hlc (fun r hr=>by obtain⟨x,_,rfl⟩:=List.mem_map.1 hr;exact hrow x) (fun j hj=>?_) (fun i r hr j v hv=>?_)
      ·have hij:j / P.cellsOf e<len:=Nat.div_lt_of_lt_mul (by rw [Nat.mul_comm];exact hj)
       obtain⟨y,rc,_,h2,_⟩:=hat (j / P.cellsOf e) hij
       obtain⟨h3,h4⟩:=hcell _ hij rc h2
       have h5:=h4 (j % P.cellsOf e) (Nat.mod_lt _ hz0)
       rw [Nat.mul_comm (j / P.cellsOf e),Nat.div_add_mod]at h5
       rw [h5]
       have:j % P.cellsOf e<rc.length:=by rw [h3];exact Nat.mod_lt _ hz0
       rw [List.getElem?_eq_getElem this];rfl
      ·rw [List.getElem?_map]at hr
       obtain⟨x,hx,rfl⟩:=Option.map_eq_some_iff.1 hr
       have hi:i<len:=by rw [←hl];exact(List.getElem?_eq_some_iff.1 hx).1
       obtain⟨y,rc,_,h2,_,h3⟩:=hQ i x hx
       obtain⟨h4,h5⟩:=hcell i hi rc h2
       have hj:j<P.cellsOf e:=by rw [←(hrow x).1];exact(List.getElem?_eq_some_iff.1 hv).1
       have h6:=h5 j hj
       obtain⟨c,hc⟩:∃c,rc[j]? = some c:=⟨_,List.getElem?_eq_getElem (by omega)⟩
       rw [hc]at h6
       show Dat _ w ((w.cell? ⟨b,off+(i*P.cellsOf e+j),none⟩).getD undef) v
       rw [h6]
       exact h3.2 j c v hc hv
   ·cases h
theorem RdF.nil {off:Nat}:RdF enc P w N off 0 [] (fun _:Unit=>[]) (fun _ xs=>xs=[]):=fun fuel cs xs _ hl h=>by
 simp at h
 subst h
 exact⟨(),rfl,by rw [List.drop_of_length_le (by omega)];exact Cl.nil⟩
theorem RdF.cons {α β:Type}(t off z:Nat){tot:Nat}{fs:List (Nat×Nat)}{row1:α→List V}{row2:β→List V}{wf1:α→DataW H→Prop}{wf2:β→List (DataW H)→Prop}(hz:P.cellsOf t=z)
  (h1:Rd enc P w N t row1 wf1) (h2:RdF enc P w N (off+z) tot fs row2 wf2):RdF enc P w N off (z+tot) ((t,off)::fs) (fun x:α×β=>row1 x.1++row2 x.2) (fun x ds=>∃d r,ds=d::r∧wf1 x.1 d∧wf2 x.2 r):=by
 intro fuel cs xs hN hl h
 subst hz
 rw [List.mapM_cons]at h
 obtain⟨y,hy,h⟩:=Option.bind_eq_some_iff.1 h
 obtain⟨ys,hys,h⟩:=Option.bind_eq_some_iff.1 h
 cases h
 obtain⟨x1,a1,a2⟩:=h1 fuel _ y.1 y.2 hN hy
 obtain⟨x2,b1,b2⟩:=h2 fuel cs ys hN (by omega) hys
 refine⟨(x1,x2),⟨y.1,ys.map Prod.fst,rfl,a1,b1⟩,?_⟩
 have:cs.drop off=(cs.drop off).take (P.cellsOf t)++cs.drop (off+P.cellsOf t):=by
  rw [←List.drop_drop,List.take_append_drop]
 rw [this]
 exact a2.append b2
def Qo0 (P:Program)(t:TypeId)(fs:List (Nat×Nat))(tot:Nat):Bool:=match P.underlying t with
 | some (.struct gs)=>(gs.toList.map fun f=>(f.type,f.offset))==fs&&P.cellsOf t==tot
 | _=>false
theorem QpB {t tot:Nat}{fs:List (Nat×Nat)}(h:Qo0 P t fs tot=true):∃gs,P.underlying t=some (.struct gs)∧(gs.toList.map fun f=>(f.type,f.offset))=fs∧P.cellsOf t=tot:=by
 unfold Qo0 at h
 split at h
 ·rename_i gs hg
  rw [Bool.and_eq_true,beq_iff_eq,beq_iff_eq]at h
  exact⟨gs,hg,h.1,h.2⟩
 ·cases h
theorem Rd.struct {α:Type}{fs:List (Nat×Nat)}{tot:Nat}{row:α→List V}{wf:α→List (DataW H)→Prop}(hB:Qo0 P t fs tot=true)(hf:RdF enc P w N 0 tot fs row wf):
  Rd enc P w (N+1) t row (fun x d=>∃ds,d=.agg ds∧wf x ds):=by
 obtain⟨gs,ht,hfs,hc⟩:=QpB hB
 intro fuel cs d ps hN h
 cases fuel with
 | zero=>simp [DataW.trod]at h
 | succ fuel=>
  simp only [DataW.trod,ht]at h
  split at h
  ·rename_i hl
   obtain⟨xs,hxs,h⟩:=Option.map_eq_some_iff.1 h
   cases h
   obtain⟨x,a1,a2⟩:=hf fuel cs xs (by omega) (by rw [hl,hc];omega) (by rw [←hfs,List.mapM_map];exact hxs)
   exact⟨x,⟨_,rfl,a1⟩,a2⟩
  ·cases h
def Qsj (P:Program)(t e n tot:Nat)(fs:List (Nat×Nat)):Bool:=match P.underlying t with
 | some (.array m e')=>m==n&&e'==e&&P.cellsOf t==tot&&((List.range n).map fun i=>(e,i*P.cellsOf e))==fs
 | _=>false
theorem Qtj {t e n tot:Nat}{fs:List (Nat×Nat)}(h:Qsj P t e n tot fs=true):P.underlying t=some (.array n e)∧P.cellsOf t=tot∧((List.range n).map fun i=>(e,i*P.cellsOf e))=fs:=by
 unfold Qsj at h
 split at h
 ·rename_i m e' hg
  simp only [Bool.and_eq_true,beq_iff_eq]at h
  obtain⟨⟨⟨rfl,rfl⟩,h⟩,h2⟩:=h
  exact⟨hg,h,h2⟩
 ·cases h
theorem Rd.array {α:Type}{e n tot:Nat}{fs:List (Nat×Nat)}{row:α→List V}{wf:α→List (DataW H)→Prop}(hB:Qsj P t e n tot fs=true)(hf:RdF enc P w N 0 tot fs row wf):
  Rd enc P w (N+1) t row (fun x d=>∃ds,d=.agg ds∧wf x ds):=by
 obtain⟨ht,hc,hfs⟩:=Qtj hB
 intro fuel cs d ps hN h
 cases fuel with
 | zero=>simp [DataW.trod]at h
 | succ fuel=>
  simp only [DataW.trod,ht]at h
  split at h
  ·rename_i hl
   obtain⟨xs,hxs,h⟩:=Option.map_eq_some_iff.1 h
   cases h
   obtain⟨x,a1,a2⟩:=hf fuel cs xs (by omega) (by rw [hl,hc];omega) (by rw [←hfs,List.mapM_map];exact hxs)
   exact⟨x,⟨_,rfl,a1⟩,a2⟩
  ·cases h
def okI (k:IntKind)(n:Int):Prop:=k.min≤n∧n≤k.max
def okS (s:ByteArray):Prop:=s.size≤maxLen
def okL {α:Type}(ok:α→Prop)(l:List α):Prop:=l.length≤maxLen∧∀x∈l,ok x
theorem Qvn {k:IntKind}{n:Int}{d:DataW H}(h:(Lit.int k n).wf=true∧d=.lit (.int k n)):okI k n:=by
 have:=h.1
 simp only [Lit.wf,Bool.and_eq_true,decide_eq_true_eq]at this
 exact this
theorem QhW {α:Type}{ok:α→Prop}{l:List α}{d:DataW H}(h:wfL (fun x _=>ok x) l d):okL ok l:=by
 refine⟨h.1,fun x hx=>?_⟩
 rcases h.2 with⟨_,rfl⟩|⟨es,sp,_,h3,h4⟩
 ·simp at hx
 ·obtain⟨i,hi⟩:=List.mem_iff_getElem?.1 hx
  have hlt:i<es.length:=by rw [h3];exact(List.getElem?_eq_some_iff.1 hi).1
  exact h4 i x _ hi (List.getElem?_eq_getElem hlt)
theorem Qur {w:World}{r:Reach}{base t tot:Nat}{v:Value}{fs:List (Nat×Nat)}(h:Qo0 P t fs tot=true)(hv:Value.okWide P w r base t v):∃cs,v=.agg cs:=by
 obtain⟨gs,h1,_⟩:=QpB h
 obtain⟨cs,h2,_⟩:=WideShapes.okWide_struct h1 hv
 exact⟨cs,h2⟩
theorem QiL {z:Nat}{r:List V}(h:(Nat.beq r.length z&&r.all V.one)=true):QjA z r:=by
 rw [Bool.and_eq_true,List.all_eq_true]at h
 exact⟨Nat.eq_of_beq_eq_true h.1,h.2⟩
end
section
variable {H:Type}{enc:TypeId×Value→H}{P:Program}
theorem Qc.law {f:FuncId}{us:List V}{args:Array Value}{W:World}(h:Qc P f us [] (Gives (.b true) []))(hG:Glob P (fun k=>k<W.heap.size) W)(hs:args.size=us.length)
  (ha:∀(j:Nat) x v,args[j]? = some x→us[j]? = some v→Dat (fun k=>k<W.heap.size) W x v):Calls P f args W fun e w'=>e=.returned (.bool true)∧Below W.heap.size W w':=by
 refine(h (fun k=>k<W.heap.size) (fun _=>none) W args ⟨fun k hk=>hk,fun _ _ _ _ _ h=>(by cases h),fun _ _ h=>(by cases h),hs,fun j x v h1 h2=>.dat (ha j x v h1 h2),fun _ _ h=>(by cases h)⟩ hG).mono ?_
 rintro e w' ⟨x,v,hs',φ',rfl,⟨rfl,_⟩,out⟩
 exact⟨by rw [out.rep.b_inv],out.os,out.tape,out.output,out.size,fun k hk=>out.kept k hk fun _ _ h=>by cases h⟩
theorem QnI (hl:laidOutB P=true){W W':World}(hb:Below W.heap.size W W'):∀{ts:List TypeId} {vs:List Value} {ds:List (DataW H)} {ps:List MemPlace},(∀t∈ts,P.readableRec t=true∧t<P.types.size)→
  DataW.TrodAll enc P W 0 (fun _=>true) true ts vs ds ps→(∀x∈ps,x.block<W.heap.size)→DataW.TrodAll enc P W' 0 (fun b=>decide (b<W.heap.size)) true ts vs ds ps
 | [],[],[],_,_,h,_=>h
 | t::ts,v::vs,d::ds,_,hr,⟨p,q,h1,h2,e⟩,hlt=>⟨p,q,Below.trod hl (hr t (List.mem_cons_self)).1 (hr t (List.mem_cons_self)).2 h1 hb (fun x hx=>hlt x (by rw [e];exact List.mem_append_left _ hx)),
   QnI hl hb (fun t ht=>hr t (List.mem_cons_of_mem _ ht)) h2 (fun x hx=>hlt x (by rw [e];exact List.mem_append_right _ hx)),e⟩
theorem Qus {f:Func}{s:ChangeSpec}{apart fresh:Bool}{W W':World}{args:Array Value}{ds:List (DataW H)}{before:List MemPlace}{tb:TypeId}(hl:laidOutB P=true)(hr:∀t∈f.params.toList,P.readableRec t=true∧t<P.types.size)
  (hW:DataW.Whole enc P f.params.toList s.vars apart W args.toList ds [] before) (hv:s.vars=[]) (hb:Below W.heap.size W W') (hrt:f.resultTypes=#[tb]) (htb:P.underlying tb=some .bool)
  (hres:(s.fn H (ds++[])).results=[.lit (.bool true)]) (hargs:(s.fn H (ds++[])).args=ds) (hvars:(s.fn H (ds++[])).vars=[]):s.post enc P f apart fresh false false W args (.bool true) W':=by
 have hW0:=hW
 obtain⟨p,q,hA,hV,rfl,_,_⟩:=hW
 have hlt:=hW0.lt
 rw [hv]at hV
 have hq:q=[]:=hV
 subst hq
 refine⟨ds,[],_,[],p,[],hW0,?_,?_,?_,?_,fun h=>by cases h⟩
 ·rw [hres,hrt]
  exact⟨[],[],shut_bool htb true,rfl,rfl⟩
 ·rw [hargs]
  exact QnI hl hb hr hA fun x hx=>hlt x (List.mem_append_left _ hx)
 ·rw [hvars,hv];rfl
 ·exact World.keptBut_mono (fun p hp=>hp.elim) (hb.frame (fun _=>False))
theorem Cl.arg1 {w:World}{v:Value}{x:V}(hv:v.cells.toList=[v])(h:Cl w v.cells.toList [x]):Dat (fun k=>k<w.heap.size) w v x:=h.2 0 v x (by rw [hv];rfl) rfl
theorem Cl.argS {w:World}{cs:Array Value}{vs:List V}(h:Cl w (Value.agg cs).cells.toList vs):Dat (fun k=>k<w.heap.size) w (.agg cs) (.agg vs):=by
 refine .agg cs vs (by simpa [Value.cells] using h.1) fun j x v hx hv=>h.2 j x v (by simpa [Value.cells] using hx) hv
theorem Rd.open {α:Type}{w:World}{t:TypeId}{row:α→List V}{wf:α→DataW H→Prop}{v:Value}{d:DataW H}{p:List MemPlace}(h:∀N,Rd enc P w N t row wf)(hd:DataW.Trod enc P w 0 (fun _=>true) true t v d p):∃x,wf x d∧Cl w v.cells.toList (row x):=by
 obtain⟨n,hn⟩:=hd
 exact h n n _ _ _ (Nat.le_refl _) hn
end
end Go.Vm
