/- A part of the proof; what it holds is told at each theorem. -/
import Derived.Test.YtbcmaoldnhphlaaO5V2
import Derived.Carry
import Derived.ReadAgain
import Derived.OpenShut
import GoSem.ClaimJoined
import Derived.Test.YtbcmaoldnhphlaaO5V2
import Derived.Lib.LaidTab
import Derived.LaidMore
import Derived.MakeChecks
import Derived.Stop.LaidErr
import Derived.Stop.Joined
import Derived.SizedLaws
import Derived.Handed
import Derived.Shelf.Spec.SlicesInsertGrow
set_option linter.unusedVariables false
set_option linter.unusedSimpArgs false
set_option linter.unusedSectionVars false
set_option linter.deprecated false
namespace Go.Vm
open Go Go.RowKit
def Cl (w:World)(cs:List Value)(vs:List V):Prop:=cs.length=vs.length∧∀(j:Nat) c v,cs[j]? = some c→vs[j]? = some v→Dat (fun k=>k<w.heap.size) w c v
theorem Cl.nil {w:World}:Cl w [] []:=⟨rfl,fun j c v h _=>by simp at h⟩
theorem Cl.one {w:World}{c:Value}{v:V}(h:Dat (fun k=>k<w.heap.size) w c v):Cl w [c] [v]:=⟨rfl,fun j c' v' h1 h2=>by
 match j with
 | 0=>simp at h1 h2;subst h1;subst h2;exact h
 | j+1=>simp at h1⟩
theorem Cl.append {w:World}{a b:List Value}{u v:List V}(h1:Cl w a u)(h2:Cl w b v):Cl w (a++b) (u++v):=by
 refine⟨by simp [h1.1,h2.1],fun j c x hc hx=>?_⟩
 by_cases hj:j<a.length
 ·rw [Qat hj]at hc
  rw [Qat (by rw [←h1.1];exact hj)]at hx
  exact h1.2 j c x hc hx
 rw [Qax (by omega)]at hc
 rw [Qax (by rw [←h1.1];omega)]at hx
 rw [←h1.1]at hx
 exact h2.2 _ c x hc hx
def Rd {H α:Type}(enc:TypeId×Value→H)(P:Program)(w:World)(N:Nat)(t:TypeId)(row:α→List V)(wf:α→DataW H→Prop):Prop:=
 ∀(fuel:Nat) (cs:List Value) (d:DataW H) (ps:List MemPlace),fuel≤N→DataW.trod enc P w 0 (fun _=>true) true fuel t cs=some (d,ps)→∃x,wf x d∧Cl w cs (row x)
def RdF {H α:Type}(enc:TypeId×Value→H)(P:Program)(w:World)(N:Nat)(off tot:Nat)(fs:List (Nat×Nat))(row:α→List V)(wf:α→List (DataW H)→Prop):Prop:=
 ∀(fuel:Nat) (cs:List Value) (xs:List (DataW H×List MemPlace)),fuel≤N→cs.length=off+tot→(fs.mapM fun f=>DataW.trod enc P w 0 (fun _=>true) true fuel f.1 ((cs.drop f.2).take (P.cellsOf f.1)))=some xs→
  ∃x,wf x (xs.map Prod.fst)∧Cl w (cs.drop off) (row x)
section
variable {H:Type}{enc:TypeId×Value→H}{P:Program}{w:World}{N:Nat}{t:TypeId}
theorem Rd.mono {α:Type}{M:Nat}{row:α→List V}{wf:α→DataW H→Prop}(h:Rd enc P w N t row wf)(hM:M≤N):Rd enc P w M t row wf:=fun fuel cs d ps hf e=>h fuel cs d ps (Qbe hf hM) e
theorem Rd.zero {α:Type}{row:α→List V}{wf:α→DataW H→Prop}:Rd enc P w 0 t row wf:=fun fuel cs d ps hf e=>by
 have:fuel=0:=by omega
 subst this
 simp [DataW.trod]at e
theorem Rd.map {α β:Type}{row:α→List V}{wf:α→DataW H→Prop}{row':β→List V}{wf':β→DataW H→Prop}(g:α→β)(h:Rd enc P w N t row wf)(hr:∀x,row x=row' (g x))(hw:∀x d,wf x d→wf' (g x) d):Rd enc P w N t row' wf':=fun fuel cs d ps hf e=>by
 obtain⟨x,h1,h2⟩:=h fuel cs d ps hf e
 exact⟨g x,hw x d h1,by rw [←hr];exact h2⟩
theorem Rd.int {k:IntKind}(ht:P.underlying t=some (.int k)):Rd enc P w N t (fun n:Int=>[V.i k n]) (fun n d=>(Lit.int k n).wf=true∧d=.lit (.int k n)):=by
 intro fuel cs d ps _ e
 cases fuel with
 | zero=>simp [DataW.trod]at e
 | succ fuel=>
  simp only [DataW.trod,ht]at e
  split at e
  all_goals first | (cases e;done) | (rename_i hq;cases hq;done) | skip
  rename_i hq
  cases hq
  split at e
  ·rename_i hc
   obtain⟨rfl,hwf⟩:=hc
   cases e
   exact⟨_,⟨hwf,rfl⟩,Cl.one (.i _ _)⟩
  cases e
theorem Rd.bool (ht:P.underlying t=some .bool):Rd enc P w N t (fun n:Bool=>[V.b n]) (fun n d=>d=.lit (.bool n)):=by
 intro fuel cs d ps _ e
 cases fuel with
 | zero=>simp [DataW.trod]at e
 | succ fuel=>
  simp only [DataW.trod,ht]at e
  split at e
  all_goals first | (cases e;done) | (rename_i hq;cases hq;done) | skip
  cases e
  exact⟨_,rfl,Cl.one (.b _)⟩
theorem Rd.string (ht:P.underlying t=some .string):Rd enc P w N t (fun n:ByteArray=>[V.s n]) (fun n d=>n.size≤maxLen∧d=.lit (.string n.data.toList)):=by
 intro fuel cs d ps _ e
 cases fuel with
 | zero=>simp [DataW.trod]at e
 | succ fuel=>
  simp only [DataW.trod,ht]at e
  split at e
  all_goals first | (cases e;done) | (rename_i hq;cases hq;done) | skip
  split at e
  ·rename_i hc
   cases e
   exact⟨_,⟨hc,rfl⟩,Cl.one (.s _)⟩
  cases e
theorem Qm4 {α:Type}{Q:Nat→α→Prop}:∀n:Nat,(∀i,i<n→∃x,Q i x)→∃l:List α,l.length=n∧∀i x,l[i]? = some x→Q i x:=by
 intro n
 induction n with
 | zero=>intro _;exact⟨[],rfl,fun i x h=>by simp at h⟩
 | succ n ih=>
  intro h
  obtain⟨l,h1,h2⟩:=ih fun i hi=>h i (by omega)
  obtain⟨x,hx⟩:=h n (by omega)
  refine⟨l++[x],by simp [h1],fun i y hy=>?_⟩
  by_cases hi:i<l.length
  ·rw [Qat hi]at hy;exact h2 i y hy
  have:=(Qx.1 hy).1
  simp at this
  have:i=l.length:=by omega
  subst this
  simp at hy;subst hy;rw [h1];exact hx
def wfL {α:Type}(wf:α→DataW H→Prop)(l:List α)(d:DataW H):Prop:=l.length≤maxLen∧((d=.nil∧l=[])∨∃es sp,d=.slice es sp∧es.length=l.length∧∀(i:Nat) x e,l[i]? = some x→es[i]? = some e→wf x e)
theorem Rd.slice {α:Type}{e z:Nat}{row:α→List V}{wf:α→DataW H→Prop}(ht:P.underlying t=some (.slice e))(hz:P.cellsOf e=z)(hz0:0<z)(hrow:∀x,Qcq z (row x))(he:Rd enc P w N e row wf):
  Rd enc P w N t (fun l:List α=>[V.sl z (l.map row)]) (wfL wf):=by
 subst hz
 intro fuel cs d ps hN h
 cases fuel with
 | zero=>simp [DataW.trod]at h
 | succ fuel=>
  simp only [DataW.trod,ht]at h
  split at h
  all_goals first | (cases h;done) | (rename_i hq;cases hq;done) | skip
  ·cases h;exact⟨[],⟨Nat.zero_le _,.inl ⟨rfl,rfl⟩⟩,Cl.one (.sl0 _ _ _)⟩
  rename_i a len cap hq
  cases hq
  split at h
  ·rename_i hc
   obtain⟨_,hlc,hcm⟩:=hc
   obtain⟨elems,hel,h⟩:=Qfh.1 h
   obtain⟨rest,_,h⟩:=Qak.1 h
   have hlen:elems.length=len:=by simpa using mapM_some_length hel
   have hat:∀i,i<len→∃y rc,elems[i]? = some y∧w.cells? 0 (a.add (i*P.cellsOf e)) (P.cellsOf e)=some rc∧DataW.trod enc P w 0 (fun _=>true) true fuel e rc=some y:=fun i hi=>by
    have:=mapM_some_get hel i i (by simp [hi])
    obtain⟨y,hy⟩:∃y,elems[i]? = some y:=⟨_,QK (by omega)⟩
    rw [hy]at this
    obtain⟨rc,h1,h2⟩:=Qfh.1 this
    exact⟨y,rc,hy,h1,h2⟩
   obtain⟨l,hl,hQ⟩:=Qm4 (Q:=fun i x=>∃y rc,elems[i]? = some y∧w.cells? 0 (a.add (i*P.cellsOf e)) (P.cellsOf e)=some rc∧wf x y.1∧Cl w rc (row x)) len fun i hi=>by
    obtain⟨y,rc,h1,h2,h3⟩:=hat i hi
    obtain⟨x,h4,h5⟩:=he fuel rc y.1 y.2 (by omega) h3
    exact⟨x,y,rc,h1,h2,h4,h5⟩
   have hd:d=.slice (elems.map (·.1)) (rest.map (·.1)):=by cases h;rfl
   refine⟨l,⟨by omega,.inr ⟨_,_,hd,by simp [hl,hlen],fun i x e' hx he'=>?_⟩⟩,Cl.one ?_⟩
   ·obtain⟨y,rc,h1,_,h3,_⟩:=hQ i x hx
    rw [Qan,h1]at he'
    cases he';exact h3
   by_cases h0:len=0
   ·have:l=[]:=QiR.1 (by omega)
    subst this;subst h0;exact .sl0 _ _ _
   obtain⟨b,off,spot⟩:=a
   obtain⟨y0,rc0,_,h02,_⟩:=hat 0 (by omega)
   have hs:spot=none:=by
    obtain⟨_,h2,h3⟩:=World.cells?_some h02
    have h4:=h3 0 hz0
    obtain⟨c0,hc0⟩:∃c0,rc0[0]? = some c0:=⟨_,QK (by omega)⟩
    rw [hc0]at h4
    simpa [Addr.add] using World.cell?_spot h4
   subst hs
   have hb:b<w.heap.size:=by
    have hb:=World.cells?_block h02 hz0
    rwa [WideShapes.add_plain]at hb
   have hcell:∀i,i<len→∀rc,w.cells? 0 ((⟨b,off,none⟩:Addr).add (i*P.cellsOf e)) (P.cellsOf e)=some rc→rc.length=P.cellsOf e∧∀j,j<P.cellsOf e→w.cell? ⟨b,off+(i*P.cellsOf e+j),none⟩=rc[j]? := fun i hi rc h=>by
    obtain⟨_,h2,h3⟩:=World.cells?_some h
    refine⟨h2,fun j hj=>?_⟩
    have:=h3 j hj
    rw [WideShapes.add_plain,WideShapes.add_plain]at this
    rw [←Qee];exact this
   refine .sl b off len cap (P.cellsOf e) (l.map row) (fun j=>(w.cell? ⟨b,off+j,none⟩).getD undef) hb (by simp [hl]) hlc (fun r hr=>by obtain⟨x,_,rfl⟩:=QaI.1 hr;exact hrow x) (fun j hj=>?_) (fun i r hr j v hv=>?_)
   ·have hij:j / P.cellsOf e<len:=Nat.div_lt_of_lt_mul (by rw [Nat.mul_comm];exact hj)
    obtain⟨y,rc,_,h2,_⟩:=hat (j / P.cellsOf e) hij
    obtain⟨h3,h4⟩:=hcell _ hij rc h2
    have h5:=h4 (j % P.cellsOf e) (Nat.mod_lt _ hz0)
    rw [Nat.mul_comm (j / P.cellsOf e),Nat.div_add_mod]at h5
    rw [h5]
    have:j % P.cellsOf e<rc.length:=by rw [h3];exact Nat.mod_lt _ hz0
    rw [QK this];rfl
   rw [Qan]at hr
   obtain⟨x,hx,rfl⟩:=Qak.1 hr
   have hi:i<len:=by rw [←hl];exact(Qx.1 hx).1
   obtain⟨y,rc,_,h2,_,h3⟩:=hQ i x hx
   obtain⟨h4,h5⟩:=hcell i hi rc h2
   have hj:j<P.cellsOf e:=by rw [←(hrow x).1];exact(Qx.1 hv).1
   have h6:=h5 j hj
   obtain⟨c,hc⟩:∃c,rc[j]? = some c:=⟨_,QK (by omega)⟩
   rw [hc]at h6
   show Dat _ w ((w.cell? ⟨b,off+(i*P.cellsOf e+j),none⟩).getD undef) v
   rw [h6]
   exact h3.2 j c v hc hv
  cases h
theorem RdF.nil {off:Nat}:RdF enc P w N off 0 [] (fun _:Unit=>[]) (fun _ xs=>xs=[]):=fun fuel cs xs _ hl h=>by
 simp at h
 subst h
 exact⟨(),rfl,by rw [List.drop_of_length_le (by omega)];exact Cl.nil⟩
theorem RdF.cons {α β:Type}(t off z:Nat){tot:Nat}{fs:List (Nat×Nat)}{row1:α→List V}{row2:β→List V}{wf1:α→DataW H→Prop}{wf2:β→List (DataW H)→Prop}(hz:P.cellsOf t=z)
  (h1:Rd enc P w N t row1 wf1) (h2:RdF enc P w N (off+z) tot fs row2 wf2):RdF enc P w N off (z+tot) ((t,off)::fs) (fun x:α×β=>row1 x.1++row2 x.2) (fun x ds=>∃d r,ds=d::r∧wf1 x.1 d∧wf2 x.2 r):=by
 intro fuel cs xs hN hl h
 subst hz
 rw [List.mapM_cons]at h
 obtain⟨y,hy,h⟩:=Qfh.1 h
 obtain⟨ys,hys,h⟩:=Qfh.1 h
 cases h
 obtain⟨x1,a1,a2⟩:=h1 fuel _ y.1 y.2 hN hy
 obtain⟨x2,b1,b2⟩:=h2 fuel cs ys hN (by omega) hys
 refine⟨(x1,x2),⟨y.1,ys.map Prod.fst,rfl,a1,b1⟩,?_⟩
 have:cs.drop off=(cs.drop off).take (P.cellsOf t)++cs.drop (off+P.cellsOf t):=by
  rw [←List.drop_drop,List.take_append_drop]
 rw [this]
 exact a2.append b2
def Qiq (P:Program)(t:TypeId)(fs:List (Nat×Nat))(tot:Nat):Bool:=match P.underlying t with
 | some (.struct gs)=>(gs.toList.map fun f=>(f.type,f.offset))==fs&&P.cellsOf t==tot
 | _=>false
theorem Qix {t tot:Nat}{fs:List (Nat×Nat)}(h:Qiq P t fs tot=true):∃gs,P.underlying t=some (.struct gs)∧(gs.toList.map fun f=>(f.type,f.offset))=fs∧P.cellsOf t=tot:=by
 unfold Qiq at h
 split at h
 ·rename_i gs hg
  rw [Qr,beq_iff_eq,beq_iff_eq]at h
  exact⟨gs,hg,h.1,h.2⟩
 cases h
theorem Rd.struct {α:Type}{fs:List (Nat×Nat)}{tot:Nat}{row:α→List V}{wf:α→List (DataW H)→Prop}(hB:Qiq P t fs tot=true)(hf:RdF enc P w N 0 tot fs row wf):
  Rd enc P w (N+1) t row (fun x d=>∃ds,d=.agg ds∧wf x ds):=by
 obtain⟨gs,ht,hfs,hc⟩:=Qix hB
 intro fuel cs d ps hN h
 cases fuel with
 | zero=>simp [DataW.trod]at h
 | succ fuel=>
  simp only [DataW.trod,ht]at h
  split at h
  ·rename_i hl
   obtain⟨xs,hxs,h⟩:=Qak.1 h
   cases h
   obtain⟨x,a1,a2⟩:=hf fuel cs xs (by omega) (by rw [hl,hc];omega) (by rw [←hfs,List.mapM_map];exact hxs)
   exact⟨x,⟨_,rfl,a1⟩,a2⟩
  cases h
def Qkx (P:Program)(t e n tot:Nat)(fs:List (Nat×Nat)):Bool:=match P.underlying t with
 | some (.array m e')=>m==n&&e'==e&&P.cellsOf t==tot&&((List.range n).map fun i=>(e,i*P.cellsOf e))==fs
 | _=>false
theorem Qlp {t e n tot:Nat}{fs:List (Nat×Nat)}(h:Qkx P t e n tot fs=true):P.underlying t=some (.array n e)∧P.cellsOf t=tot∧((List.range n).map fun i=>(e,i*P.cellsOf e))=fs:=by
 unfold Qkx at h
 split at h
 ·rename_i m e' hg
  simp only [Qr,beq_iff_eq]at h
  obtain⟨⟨⟨rfl,rfl⟩,h⟩,h2⟩:=h
  exact⟨hg,h,h2⟩
 cases h
theorem Rd.array {α:Type}{e n tot:Nat}{fs:List (Nat×Nat)}{row:α→List V}{wf:α→List (DataW H)→Prop}(hB:Qkx P t e n tot fs=true)(hf:RdF enc P w N 0 tot fs row wf):
  Rd enc P w (N+1) t row (fun x d=>∃ds,d=.agg ds∧wf x ds):=by
 obtain⟨ht,hc,hfs⟩:=Qlp hB
 intro fuel cs d ps hN h
 cases fuel with
 | zero=>simp [DataW.trod]at h
 | succ fuel=>
  simp only [DataW.trod,ht]at h
  split at h
  ·rename_i hl
   obtain⟨xs,hxs,h⟩:=Qak.1 h
   cases h
   obtain⟨x,a1,a2⟩:=hf fuel cs xs (by omega) (by rw [hl,hc];omega) (by rw [←hfs,List.mapM_map];exact hxs)
   exact⟨x,⟨_,rfl,a1⟩,a2⟩
  cases h
def okI (k:IntKind)(n:Int):Prop:=k.min≤n∧n≤k.max
def okL {α:Type}(ok:α→Prop)(l:List α):Prop:=l.length≤maxLen∧∀x∈l,ok x
theorem Qm5 {k:IntKind}{n:Int}{d:DataW H}(h:(Lit.int k n).wf=true∧d=.lit (.int k n)):okI k n:=by
 have:=h.1
 simp only [Lit.wf,Qr,QdP]at this
 exact this
theorem QlP {α:Type}{ok:α→Prop}{l:List α}{d:DataW H}(h:wfL (fun x _=>ok x) l d):okL ok l:=by
 refine⟨h.1,fun x hx=>?_⟩
 rcases h.2 with⟨_,rfl⟩|⟨es,sp,_,h3,h4⟩
 ·simp at hx
 obtain⟨i,hi⟩:=Qeb.1 hx
 have hlt:i<es.length:=by rw [h3];exact(Qx.1 hi).1
 exact h4 i x _ hi (QK hlt)
theorem Qml {w:World}{r:Reach}{base t tot:Nat}{v:Value}{fs:List (Nat×Nat)}(h:Qiq P t fs tot=true)(hv:Value.okWide P w r base t v):∃cs,v=.agg cs:=by
 obtain⟨gs,h1,_⟩:=Qix h
 obtain⟨cs,h2,_⟩:=WideShapes.okWide_struct h1 hv
 exact⟨cs,h2⟩
theorem Qi6 {z:Nat}{r:List V}(h:(Nat.beq r.length z&&r.all V.one)=true):Qcq z r:=by
 rw [Qr,QG]at h
 exact⟨QQ h.1,h.2⟩
end
section
variable {H:Type}{enc:TypeId×Value→H}{P:Program}
theorem Qh.law {f:FuncId}{us:List V}{args:Array Value}{W:World}(h:Qh P f us [] (Qp (.b true) []))(hG:QhT P (fun k=>k<W.heap.size) W)(hs:args.size=us.length)
  (ha:∀(j:Nat) x v,args[j]? = some x→us[j]? = some v→Dat (fun k=>k<W.heap.size) W x v):Calls P f args W fun e w'=>e=.returned (.bool true)∧Below W.heap.size W w':=by
 refine(h (fun k=>k<W.heap.size) (fun _=>none) W args ⟨fun k hk=>hk,fun _ _ _ _ _ h=>(by cases h),fun _ _ h=>(by cases h),hs,fun j x v h1 h2=>.dat (ha j x v h1 h2),fun _ _ h=>(by cases h)⟩ hG).mono ?_
 rintro e w' ⟨x,v,hs',φ',rfl,⟨rfl,_⟩,out⟩
 exact⟨by rw [out.rep.b_inv],out.os,out.tape,out.output,out.size,fun k hk=>out.kept k hk fun _ _ h=>by cases h⟩
theorem QhH (hl:laidOutB P=true){W W':World}(hb:Below W.heap.size W W'):∀{ts:List TypeId} {vs:List Value} {ds:List (DataW H)} {ps:List MemPlace},(∀t∈ts,P.readableRec t=true∧t<P.types.size)→
  DataW.TrodAll enc P W 0 (fun _=>true) true ts vs ds ps→(∀x∈ps,x.block<W.heap.size)→DataW.TrodAll enc P W' 0 (fun b=>decide (b<W.heap.size)) true ts vs ds ps
 | [],[],[],_,_,h,_=>h
 | t::ts,v::vs,d::ds,_,hr,⟨p,q,h1,h2,e⟩,hlt=>⟨p,q,Below.trod hl (hr t (QaB)).1 (hr t (QaB)).2 h1 hb (fun x hx=>hlt x (by rw [e];exact List.mem_append_left _ hx)),
   QhH hl hb (fun t ht=>hr t (Qa1 _ ht)) h2 (fun x hx=>hlt x (by rw [e];exact List.mem_append_right _ hx)),e⟩
theorem Qmm {f:Func}{s:ChangeSpec}{apart fresh:Bool}{W W':World}{args:Array Value}{ds:List (DataW H)}{before:List MemPlace}{tb:TypeId}(hl:laidOutB P=true)(hr:∀t∈f.params.toList,P.readableRec t=true∧t<P.types.size)
  (hW:DataW.Whole enc P f.params.toList s.vars apart W args.toList ds [] before) (hv:s.vars=[]) (hb:Below W.heap.size W W') (hrt:f.resultTypes=#[tb]) (htb:P.underlying tb=some .bool)
  (hres:(s.fn H (ds++[])).results=[.lit (.bool true)]) (hargs:(s.fn H (ds++[])).args=ds) (hvars:(s.fn H (ds++[])).vars=[]):s.post enc P f apart fresh false false W args (.bool true) W':=by
 have hW0:=hW
 obtain⟨p,q,hA,hV,rfl,_,_⟩:=hW
 have hlt:=hW0.lt
 rw [hv]at hV
 have hq:q=[]:=hV
 subst hq
 refine⟨ds,[],_,[],p,[],hW0,?_,?_,?_,?_,fun h=>by cases h⟩
 ·rw [hres,hrt]
  exact⟨[],[],shut_bool htb true,rfl,rfl⟩
 ·rw [hargs]
  exact QhH hl hb hr hA fun x hx=>hlt x (List.mem_append_left _ hx)
 ·rw [hvars,hv];rfl
 exact World.keptBut_mono (fun p hp=>hp.elim) (hb.frame (fun _=>False))
theorem Cl.arg1 {w:World}{v:Value}{x:V}(hv:v.cells.toList=[v])(h:Cl w v.cells.toList [x]):Dat (fun k=>k<w.heap.size) w v x:=h.2 0 v x (by rw [hv];rfl) rfl
theorem Cl.argS {w:World}{cs:Array Value}{vs:List V}(h:Cl w (Value.agg cs).cells.toList vs):Dat (fun k=>k<w.heap.size) w (.agg cs) (.agg vs):=by
 refine .agg cs vs (by simpa [Value.cells] using h.1) fun j x v hx hv=>h.2 j x v (by simpa [Value.cells] using hx) hv
theorem Rd.open {α:Type}{w:World}{t:TypeId}{row:α→List V}{wf:α→DataW H→Prop}{v:Value}{d:DataW H}{p:List MemPlace}(h:∀N,Rd enc P w N t row wf)(hd:DataW.Trod enc P w 0 (fun _=>true) true t v d p):∃x,wf x d∧Cl w v.cells.toList (row x):=by
 obtain⟨n,hn⟩:=hd
 exact h n n _ _ _ (QaO _) hn
end
end Go.Vm
namespace Go.Vm
open Go Go.RowKit
section
variable {P:Program}{C:Ctx}{Q:Exit→St→Prop}{σ:St}{ks:List Fr}{o:Oper}
theorem QjH {σ':St}{φ φ':Prop}{d f:Nat}{vs us:List V}{M N:List (Nat×Nat)}{dead:List Nat}{ms:List Mode}{outs hsC:List (Nat×Ob)}{r:V}
  (hus:Qhm (bkM M) ms vs=some us) (hC:Qe6 (bkM M) (look σ.hp) M=some hsC)
  (e:cmV P σ φ d f vs M N dead ms outs r=some (σ',φ')):∃hsN r',QcF σ M N dead outs=true∧(M.map Prod.fst).Nodup∧Vws σ.hp false false (Qcc M) (fun a b=>look M b=some a) vs us∧Qe5 σ.hp false false (Qcc M) (fun a b=>look M b=some a) σ.hp M hsC∧
   Qe5 [] false false [] (fun c b=>look N b=some c) outs N hsN∧Vw [] false false [] (fun c b=>look N b=some c) r r'∧σ'=(σ.after dead hsN).put d r':=by
 unfold cmV at e
 replace e:=QI e;obtain⟨e1,e⟩:=e
 simp only [Qr]at e1
 obtain⟨⟨h1,h2⟩,h3⟩:=e1
 have h2:=Qct.1 h2
 have h3:=Qct.1 h3
 have inj:QeH M=true∧QeH N=true:=by
  simp only [QcF,Qr]at h1
  exact⟨h1.1.1.1,h1.1.1.2⟩
 have mM:∀a b,bkM M a=some b→look M b=some a:=fun a b h=>QbF inj.1 (Qfv h) h2
 have mN:∀a b,bkM N a=some b→look N b=some a:=fun a b h=>QbF inj.2 (Qfv h) h3
 simp only [hus,hC]at e
 split at e
 ·rename_i hsN hN
  split at e
  ·rename_i r' hr
   cases e
   exact⟨hsN,r',h1,h2,Qgv mM hus,Qdk mM hC,Qdk mN hN,QeV mN hr,rfl⟩
  cases e
 cases e
theorem AK.callE {ι:Type}[Inhabited ι]{Φ:ι→Prop}{d f n:Nat}{ops:Array Oper}{rest:List Oper}{vs us:List V}{hsC:List (Nat×Ob)}(M N:List (Nat×Nat))(dead:List Nat)(ms:List Mode)(outs:ι→List (Nat×Ob))(r:ι→V)(σ':ι→St)
  (hg:o.guard=none) (hCn:Qca P C n) (hE:Qal P C o σ f vs) (hd:o.dst=some d) (hn:Nat.ble (d+1) C.n=true)
  (hus:Qhm (bkM M) ms vs=some us) (hC:Qe6 (bkM M) (look σ.hp) M=some hsC)
  (hc:Qh P f us hsC fun v hs=>∃x,Φ x∧Qp (r x) (outs x) v hs)
  (e:∀x,∃φ',cmV P σ True d f vs M N dead ms (outs x) (r x)=some (σ' x,φ'))
  (k:∀x,Φ x→AK P C Q (.o ops rest) ks (σ' x)):AK P C Q (.o ops (o::rest)) ks σ:=by
 intro a w ⟨φ,hr⟩
 simp only [wpListIn,Region.wanted,hg,if_true]
 refine⟨fun _ _=>trivial,?_⟩
 obtain⟨vals,hex,h1,h2⟩:=hE φ a w hr
 rw [Qij hex,Oper.uponIn_enter]
 obtain⟨_,e0⟩:=e default
 obtain⟨_,_,n1,n2,hv,hobs,_,_,_⟩:=QjH hus hC e0
 have hN0:=Qim.of n1 n2
 refine⟨(fun h=>by cases h),QiS ((hc _ _ w _ (Ins.of_vals hr h1 h2 hN0.injM hN0.param hv hobs) ((hr.glob hCn.g).mono fun _ h=>.inl h)).mono ?_)⟩
 rintro e' w' ⟨x,v,hs',φ',rfl,⟨i,hΦ,rfl,hso⟩,hout⟩
 obtain⟨_,ei⟩:=e i
 obtain⟨hsN,r',n1,n2,_,_,hback,hr',hσ⟩:=QjH hus hC ei
 have hN:=Qim.of n1 n2
 obtain⟨h3,h4⟩:=hr.after hN hout hso (fun c s h=>by
  obtain⟨ob',e1⟩:=hobs.get.2 c s h
  obtain⟨s',ob,e2,e3,_⟩:=hobs.get.1 c ob' e1
  rw [h]at e2;cases e2;exact⟨ob,e3⟩) hback
 refine k i hΦ _ _ ⟨QdT φ M N dead φ',?_⟩
 rw [hd,hσ]
 exact h3.put (QL hn) (h4 hr')
end
end Go.Vm
namespace Go.Vm
open Go Go.RowKit
end Go.Vm
namespace Go.Vm
open Go Go.RowKit
variable {H:Type}{P:Program}
def Sz (P:Program)(t:Nat)(d:DataW H):Prop:=∀n∈d.weights P t,n≤reachBytes
theorem Sz.all {ts:List TypeId}{ds:List (DataW H)}(h:(DataW.weightsEach P ts ds).all (·≤reachBytes)=true){j:Nat}{t:Nat}{d:DataW H}(ht:ts[j]? = some t)(hd:ds[j]? = some d):Sz P t d:=fun n hn=>by
 have:=QG.1 h n (DataW.weights_mem_each ht hd n hn)
 simpa using this
theorem Sz.field {t:Nat}{fs:Array Field}(hu:P.underlying t=some (.struct fs)){ds:List (DataW H)}(h:Sz P t (.agg ds)){j:Nat}{u:Nat}{d:DataW H}(ht:(fs.toList.map (·.type))[j]? = some u)(hd:ds[j]? = some d):Sz P u d:=fun n hn=>h n (by
 simp only [DataW.weights,hu]
 exact DataW.weights_mem_each ht hd n hn)
theorem QkP {e:Nat}{d:DataW H}{n:Nat}(hn:n∈d.weights P e):∀{ds:List (DataW H)},d∈ds→n∈DataW.weightsAll P e ds
 | [],h=>by cases h
 | x::ds,h=>by
  simp only [DataW.weightsAll,Qea]
  rcases Q4.1 h with rfl | h
  ·exact .inl hn
  exact .inr (QkP hn h)
theorem szL {α:Type}{t e:Nat}{ok sz:α→Prop}{l:List α}{d:DataW H}(hu:P.underlying t=some (.slice e))(h:wfL (fun x d=>ok x∧(Sz P e d→sz x)) l d):okL ok l∧(Sz P t d→l.length*P.bytesOf e≤reachBytes∧∀x∈l,sz x):=by
 obtain⟨h1,⟨rfl,rfl⟩|⟨es,sp,rfl,hl,hw⟩⟩:=h
 ·exact⟨⟨h1,fun x h=>by cases h⟩,fun _=>⟨by simp,fun x h=>by cases h⟩⟩
 have key:∀x∈l,∃d∈es,ok x∧(Sz P e d→sz x):=fun x hx=>by
  obtain⟨i,hi,rfl⟩:=List.mem_iff_getElem.1 hx
  have hi2:i<es.length:=by omega
  exact⟨es[i],Qb6 hi2,hw i _ _ (QK hi) (QK hi2)⟩
 refine⟨⟨h1,fun x hx=>by obtain⟨_,_,h,_⟩:=key x hx;exact h⟩,fun hs=>⟨?_,fun x hx=>?_⟩⟩
 ·have:=hs ((es.length+sp.length)*P.bytesOf e) (by simp only [DataW.weights,hu];exact QaB)
  rw [←hl]
  exact Qbe (Qao _ (Nat.le_add_right _ _)) this
 obtain⟨d,hd,_,h⟩:=key x hx
 refine h fun n hn=>hs n ?_
 simp only [DataW.weights,hu]
 exact Qa1 _ (List.mem_append_left _ (QkP hn hd))
theorem QnD {α:Type}{t e b:Nat}{ok:α→Prop}{l:List α}{d:DataW H}(hu:P.underlying t=some (.slice e))(hb:P.bytesOf e=b)(h:wfL (fun x _=>ok x) l d):okL ok l∧(Sz P t d→l.length*b≤reachBytes):=by
 subst hb
 have:=szL (P:=P) (t:=t) (e:=e) (sz:=fun _=>True) hu (show wfL (fun x d=>ok x∧(Sz P e d→True)) l d from⟨h.1,h.2.imp id fun ⟨es,sp,h1,h2,h3⟩=>⟨es,sp,h1,h2,fun i x e a b=>⟨h3 i x e a b,fun _=>trivial⟩⟩⟩)
 exact⟨this.1,fun hs=>(this.2 hs).1⟩
theorem QnE {α:Type}{t e b:Nat}{ok sz:α→Prop}{l:List α}{d:DataW H}(hu:P.underlying t=some (.slice e))(hb:P.bytesOf e=b)(h:wfL (fun x d=>ok x∧(Sz P e d→sz x)) l d):okL ok l∧(Sz P t d→l.length*b≤reachBytes∧∀x∈l,sz x):=by
 subst hb;exact szL hu h
theorem Qky {enc:TypeId×Value→H}{a:Assume}{C:Checked}{os:Os}{f:FuncId}{fn:Func}{s:ChangeSpec}{conds:List PathCond}{apart fresh handsOn again:Bool}
  (own:ownKnob C.prog.godebug=none) (started:os.Started) (noInit:C.prog.inits.idxOf? f=none) (hfn:C.prog.funcs[f]? = some fn)
  (witness:∃(w:World) (tape:Tape) (i:Input),w.os=os∧(w.forCall tape i).Shaped C.prog∧i.vars=[]∧Input.okWide C.prog (w.forCall tape i) .any w.heap.size f i∧
   s.pre6 enc C.prog fn conds apart (w.forCall tape i).memory i.args∧a.holds C.prog (lone (Frame.enter C.prog f i.args .normal) [] (w.forCall tape i)))
  (step:∀(W:World) (base:Nat) (args:Array Value) (ds gs:List (DataW H)) (before:List MemPlace),
   (∀(j:Nat) t v,fn.params[j]? = some t→args[j]? = some v→Value.okWide C.prog W .any base t v)→
   DataW.Whole enc C.prog fn.params.toList s.vars apart W args.toList ds gs before→
   conds.all (PathCond.test C.prog ⟨fn.params.toList,ds,s.plain.varTypes C.prog,gs⟩)=true→
   (DataW.weightsEach C.prog (fn.params.toList++s.plain.varTypes C.prog) (ds++gs)).all (·≤reachBytes)=true→
   a.holds C.prog (lone (Frame.enter C.prog f args .normal) [] W)→
   Calls C.prog f args W fun e W'=>∃v,e=.returned v∧s.post enc C.prog fn apart fresh handsOn again W args v W'):
  ReturnsInHanded a C os f .any (s.pre6 enc C.prog fn conds apart) (s.post enc C.prog fn apart fresh handsOn again):=by
 refine returnsInHanded_of_calls own started noInit witness ?_
 intro w tape i _ _ _ hok hpre hholds
 obtain⟨_,_,_,fn',hfn',_,_,_,_,hval⟩:=hok
 have e:fn'=fn:=Option.some.inj (hfn'.symm.trans hfn)
 subst e
 obtain⟨⟨ds,gs,before,hw,hc⟩,hz⟩:=hpre
 have hw':=DataW.Whole.of_heap (w':=w.forCall tape i) (by rfl) hw
 refine(step (w.forCall tape i) w.heap.size i.args ds gs before hval hw' hc (hz.weights hw) hholds).mono fun e W' ⟨v,he,hp⟩=>?_
 subst he
 exact ChangeSpec.post_blind hp
end Go.Vm
namespace Go.Vm
open Go Go.RowKit
section
variable {κ α:Type}[DecidableEq κ]
theorem Qi7 {π:Type}{L:List (Nat×π)}{seen:Array Nat}{y:Nat}:Qaz L (seen.push y)=(Qaz L seen).filter fun q=>!(q.1==y):=by
 unfold Qaz
 rw [List.filter_filter]
 apply List.filter_congr
 intro q _
 rw [Bool.eq_iff_iff]
 simp [Array.mem_push]
 constructor
 ·rintro ⟨h1,h2⟩;exact⟨h2,h1⟩
 rintro ⟨h1,h2⟩;exact⟨h2,h1⟩
structure Qhu (L L':List (Nat×(κ×α))) (seen:Array Nat):Prop where
 keys:L'.map (·.2.1)=L.map (·.2.1)
 left:Qaz L' seen=Qaz L seen
theorem Qhu.refl {L:List (Nat×(κ×α))}{seen:Array Nat}:Qhu L L seen:=⟨rfl,rfl⟩
theorem Qhu.push {L L':List (Nat×(κ×α))}{seen:Array Nat}(h:Qhu L L' seen)(y:Nat):Qhu L L' (seen.push y):=⟨h.keys,by rw [Qi7,Qi7,h.left]⟩
theorem Qhu.nil {L L':List (Nat×(κ×α))}{seen:Array Nat}(h:Qhu L L' seen)(hq:Qaz L' seen=[]):Qaz L seen=[]:=by rw [←h.left];exact hq
end
section
variable {P:Program}{C:Ctx}{σ:St}{o:Oper}{κ α:Type}[DecidableEq κ]
end
theorem AK.know {P:Program}{C:Ctx}{Q:Exit→St→Prop}{σ:St}{ks:List Fr}{pt:Pt}{p:Prop}(h:∀a w,R C σ a w→p)(k:p→AK P C Q pt ks σ):AK P C Q pt ks σ:=
 AK.weakenE (ι:=PLift p) (f:=fun _=>σ) (fun a w hR=>⟨⟨h a w hR⟩,hR⟩) fun i=>k i.down
end Go.Vm
namespace Go.Vm
open Go Go.RowKit
def QE (A:Nat→Nat)(p:Option Nat):V:=.lit (.pointer (p.map fun k=>⟨A k,0,none⟩))
def Qw (A:Nat→Nat)(p:Option Nat):List V:=[QE A p]
def Qap (A:Nat→Nat)(off k:Nat):V:=.lit (.pointer (some ⟨A k,off,none⟩))
section
variable {P:Program}{C:Ctx}{σ:St}{o:Oper}{A:Nat→Nat}
theorem Stp.nilCheckP {d k:Nat}{p:Option Nat}{x:Operand}(ho:o.op=.nilCheck x)(hd:o.dst=some d)(hn:Nat.ble (d+1) C.n=true)(hx:σ.opd x=some (QE A p))(hp:p=some k):Stp P C o σ (σ.put d (Qap A 0 k)):=by
 subst hp
 refine Stp.same hd hn fun φ a w hr=>⟨a.eval x,?_,hr.opd hx⟩
 have:=(hr.opd hx).lit_inv
 simp [execOp,ho,this]
theorem Stp.fieldP {T f d k off n m:Nat}{x:Operand}(ho:o.op=.fieldAddr T x f)(hd:o.dst=some d)(hn:Nat.ble (d+1) C.n=true)(hx:σ.opd x=some (Qap A off k))(hf:Qc4 P T f=some n)(hm:off+n=m):Stp P C o σ (σ.put d (Qap A m k)):=by
 refine Stp.same hd hn fun φ a w hr=>?_
 subst hm
 have he:=(hr.opd hx).lit_inv
 refine⟨.pointer (some ⟨A k,off+n,none⟩),?_,.dat (.lit _)⟩
 simp only [execOp,ho,he,Sem.run_bind,Qgo hf,Result.andThen_ok,Sem.run_pure,Addr.add_lit]
theorem Stp.loadP {T d b k off z:Nat}{x:Operand}{rs:List (List V)}{r:List V}{v:V}(ho:o.op=.load T x)(hd:o.dst=some d)(hn:Nat.ble (d+1) C.n=true)(hx:σ.opd x=some (Qap A off k))
  (hb:look σ.hp b=some (.tbl A z rs)) (hg:Qbp P T=some false) (hr':rs[k]? = some r) (hv:r[off]? = some v):Stp P C o σ (σ.put d v):=by
 refine Stp.same hd hn fun φ a w hr=>?_
 have he:=(hr.opd hx).lit_inv
 rcases hr.heap b _ hb with⟨B,hB,h1,h2,h3,h4⟩|⟨_,h⟩
 ·obtain⟨cs,E,e1,e2,e3⟩:=h4 k r hr'
  obtain⟨y,hy,hD⟩:=e3 off v hv
  refine⟨y,?_,.dat hD⟩
  have hc:w.cell? ⟨A k,off,none⟩=some y:=by simp [World.cell?,e1,hy]
  simp only [execOp,ho,he,Sem.run_bind,QcK hg hc,Result.andThen_ok,Sem.run_pure]
 subst h;simp at hr'
theorem Stp.storeP {T b k off z:Nat}{x y:Operand}{rs rs':List (List V)}{r:List V}{v:V}(ho:o.op=.store T x y)(hd:o.dst=none)(hx:σ.opd x=some (Qap A off k))
  (hb:look σ.hp b=some (.tbl A z rs)) (hr':rs[k]? = some r) (hlt:Nat.ble (off+1) z=true) (hy:σ.opd y=some v) (h1:v.one=true) (hdat:v.dat=true) (hs:QbZ P T=some 1) (he:rs.set k (r.set off v)=rs'):Stp P C o σ (σ.set b (.tbl A z rs')):=by
 refine Stp.skp fun φ a w hr=>?_
 subst he
 have hev:=(hr.opd hx).lit_inv
 have hv:=hr.opd hy
 rcases hr.heap b _ hb with⟨B,hB,h⟩|⟨_,h⟩
 ·have hrep:=h
  obtain⟨a1,a2,a3,a4⟩:=h
  obtain⟨cs,E,e1,e2,e3⟩:=a4 k r hr'
  have hk:k<rs.length:=(Qx.1 hr').1
  have hoff:off<cs.size:=by rw [e2];exact Qaj hlt
  have hvc:v.cells=[v]:=by cases v<;>first | rfl | simp [V.one]at h1
  have hrl:r.length=z:=(a3 r (QP hr')).1
  have hc1:=(hv.oneCell h1).1
  have hrun:=Qgn (P:=P) (T:=T) (off:=off) (x:=a.eval y) hs (by rw [hc1];rfl) e1 (by omega) (hv.cells_one (.inl h1) (by rw [hvc];simp [h1]))
  rw [hc1]at hrun
  have hnl:(cs.toList.take off++[a.eval y]++cs.toList.drop (off+1)).toArray.size=z:=by simp;omega
  have hcell:∀j:Nat,(cs.toList.take off++[a.eval y]++cs.toList.drop (off+1)).toArray[j]? = if j=off then some (a.eval y)else cs[j]? := fun j=>by
   rw [Qco]
   by_cases hj:j<off
   ·rw [Qcn,Qat (by simp;omega),Qau,if_pos hj,if_neg (by omega)];simp
   by_cases hj2:j=off
   ·subst hj2
    rw [Qcn,Qax (by simp;omega),if_pos rfl]
    have:j-(List.take j cs.toList).length=0:=by rw [Qf0];simp;omega
    rw [this];rfl
   rw [Qax (by simp;omega),Qa0,if_neg hj2]
   simp only [Qdj,Qf0,Qd9,List.length_nil]
   rw [show off+1+(j-(min off cs.toList.length+(0+1)))=j by simp;omega];simp
  generalize hnc:(cs.toList.take off++[a.eval y]++cs.toList.drop (off+1)).toArray=nc at hnl hcell
  have hrun':(Instr.storeAt T (.pointer (some ⟨A k,off,none⟩)) (a.eval y)).run P w=.ok () (w.setRow (A k) nc):=by rw [←hnc];exact hrun
  have hhas:B.has (A k):=(hrep.has _).2 ⟨k,hk,rfl⟩
  have hinj:∀i,i<rs.length→A i=A k→i=k:=fun i hi e=>by
   have hnd:=a2;rw [a1]at hnd
   exact(List.getElem?_inj (by simpa using hi) hnd).1 (by rw [Qan,Qan,List.getElem?_range hi,List.getElem?_range hk];simp [e])
  have hI:∀j,Imm C φ w j→Imm C φ (w.setRow (A k) nc) j∧(w.setRow (A k) nc).heap[j]? = w.heap[j]? := fun j hj=>⟨⟨by simpa using hj.1,hj.2⟩,setRow_other w _ j _ fun e=>hj.2.2 b B hB (e▸hhas)⟩
  refine⟨w.setRow (A k) nc,φ,?_,?_⟩
  ·simp only [execOp,ho,hev,Sem.run_bind,hrun',Result.andThen_ok,Sem.run_pure]
  rw [hd]
  have:=hr.change hB (B':=B) ⟨rfl,rfl,rfl,rfl⟩ (fun _=>rfl) (ob:=.tbl A z (rs.set k (r.set off v))) (w':=w.setRow (A k) nc) rfl rfl rfl (by simp) (fun j _ hne=>setRow_other w _ j _ fun e=>hne (e▸hhas))
   (fun j hj=>⟨by simpa using (hr.lt b B j hB hj).1,.inl hj⟩) (by
    rw [Qg7 hB]
    refine⟨by rw [Qg2];exact a1,a2,fun q hq=>?_,fun i q hi=>?_⟩
    ·rcases Qih hq with hq | rfl
     ·exact a3 q hq
     obtain⟨b1,b2⟩:=a3 r (QP hr')
     refine⟨by rw [Qg2];exact b1,fun u hu=>?_⟩
     rcases Qih hu with hu | rfl
     ·exact b2 u hu
     exact h1
    by_cases e:i=k
    ·subst e
     rw [List.getElem?_set_self hk]at hi;cases hi
     refine⟨nc,E,setRow_heap w _ cs _ E _ e1,hnl,fun j u hu=>?_⟩
     by_cases ej:j=off
     ·subst ej
      rw [List.getElem?_set_self (by omega)]at hu;cases hu
      exact⟨a.eval y,by rw [hcell,if_pos rfl],(hv.toDat hdat).mono hI⟩
     rw [List.getElem?_set_ne (Ne.symm ej)]at hu
     obtain⟨x',hx',hD⟩:=e3 j u hu
     exact⟨x',by rw [hcell,if_neg ej];exact hx',hD.mono hI⟩
    rw [List.getElem?_set_ne (Ne.symm e)]at hi
    obtain⟨cs2,E2,g1,g2,g3⟩:=a4 i q hi
    have hi':i<rs.length:=(Qx.1 hi).1
    exact⟨cs2,E2,(setRow_other w _ _ _ fun e'=>e (hinj i hi' e')).trans g1,g2,fun j u hu=>let ⟨x',hx',hD⟩:=g3 j u hu;⟨x',hx',hD.mono hI⟩⟩)
  rwa [Qg7 hB]at this
 subst h;simp at hr'
theorem QmK (t e:TypeId)(p:Option Addr)(w:World)(h:P.underlying t=some (.pointer e)):(Op.equal t (.pointer p) (.pointer none)).run P w=.ok p.isNone w:=by
 show(Op.equalIn (9999+1) t (.pointer p) (.pointer none)).run P w=_
 rw [Op.equalIn]
 cases p<;>simp only [Sem.run_bind,run_underlying h,Result.andThen_ok,Sem.run_pure]<;>rfl
theorem Stp.neqNilP {T U d e:Nat}{x y:Operand}{p:Option Nat}(ho:o.op=.binOp .neq T x y U)(hd:o.dst=some d)(hn:Nat.ble (d+1) C.n=true)(hx:σ.opd x=some (QE A p))(hy:σ.opd y=some (.lit (.pointer none)))(hT:P.underlying T=some (.pointer e)):Stp P C o σ (σ.put d (.b p.isSome)):=by
 refine Stp.same hd hn fun φ a w hr=>?_
 have hxv:=(hr.opd hx).lit_inv
 have hyv:=(hr.opd hy).lit_inv
 refine⟨.bool p.isSome,?_,.dat (.b _)⟩
 simp only [execOp,ho,hxv,hyv]
 simp [eqGuard,binOp,QmK _ _ _ w hT]
def QcO {κ α:Type}[DecidableEq κ](l:List (κ×α))(k:κ):List (κ×α):=l.filter fun p=>!decide (p.1=k)
theorem Stp.delete {T U b K E:Nat}{x y:Operand}{κ α:Type}[DecidableEq κ]{e:κ→V}{val:κ→Value}{f:α→V}{l:List (κ×α)}{k:κ}(ho:o.op=.call { callee:=.builtin .delete,args:=#[x,y],argTypes:=#[T,U] })(hd:o.dst=none)
  (hx:σ.opd x=some (.map b)) (hb:look σ.hp b=some (.map (QA e f l))) (hy:σ.opd y=some (e k)) (hT:Qgt P T=some (K,E)) (hk:QdQ P K e val):
  Stp P C o σ (σ.set b (.map (QA e f (QcO l k)))):=by
 refine Stp.val fun φ a w hr=>?_
 obtain⟨B,hB,he⟩:=(hr.opd hx).map_inv
 have hyv:a.eval y=val k:=hk.inv _ _ _ _ ((hr.opd hy).toDat (hk.edat k))
 obtain⟨D,hD,_⟩:=hk.d
 have hrep:=hr.block hB hb
 obtain⟨es,clock,h1,h2,h3,h4,h5,h6⟩:=Qa5.find hk hD hrep k
 obtain⟨es',clock',h1',_,_,_,r5,r6⟩:=hrep
 rw [h1]at h1';cases h1'
 have hlt:B.b<w.heap.size:=(hr.lt b B _ hB B.self).1
 have write:∀(es2:Array MapEntry) (l2:List (κ×α)),MapKept.Stamped es2 clock→(l2.map Prod.fst).Nodup→es2.size=l2.length→
   (∀x∈es2.toList,∃p∈l2,x.key=val p.1∧Dat (Imm C φ w) w x.val (f p.2))→(∀p∈l2,∃x∈es2.toList,x.key=val p.1∧Dat (Imm C φ w) w x.val (f p.2))→
   RR C φ (σ.set b (.map (QA e f l2))) a { w with heap:=w.heap.setIfInBounds B.b (.map es2 clock) }:=by
  intro es2 l2 a1 a2 a3 a4 a5
  have hI:∀k,Imm C φ w k→Imm C φ { w with heap:=w.heap.setIfInBounds B.b (.map es2 clock) } k∧(w.heap.setIfInBounds B.b (.map es2 clock))[k]? = w.heap[k]? := fun k hk'=>
   ⟨⟨by simpa using hk'.1,hk'.2⟩,Qa6 _ fun e=>hk'.2.2 b B hB (.inl e)⟩
  refine hr.write hB rfl rfl rfl (by simp) (fun k hne=>Qa6 _ hne) ⟨es2,clock,by simp [hlt],a1,(Qhj hk.einj).2 a2,by rw [a3,QA,QfZ],fun x hx=>?_,fun p hp=>?_⟩
  ·obtain⟨p,hp,e1,e2⟩:=a4 x hx
   exact⟨_,QaI.2 ⟨p,hp,rfl⟩,by rw [e1];exact hk.dat _ _ _,e2.mono hI⟩
  obtain⟨q,hq,rfl⟩:=QaI.1 hp
  obtain⟨x,hx,e1,e2⟩:=a5 q hq
  exact⟨x,hx,by rw [e1];exact hk.dat _ _ _,e2.mono hI⟩
 have old1:∀x∈es.toList,∃p∈l,x.key=val p.1∧Dat (Imm C φ w) w x.val (f p.2):=fun x hx=>by
  obtain⟨p,hp,a1,a2⟩:=r5 x hx
  obtain⟨q,hq,rfl⟩:=QaI.1 hp
  exact⟨q,hq,hk.inv _ _ _ _ a1,a2⟩
 have old2:∀p∈l,∃x∈es.toList,x.key=val p.1∧Dat (Imm C φ w) w x.val (f p.2):=fun p hp=>by
  obtain⟨x,hx,a1,a2⟩:=r6 _ (QaI.2 ⟨p,hp,rfl⟩)
  exact⟨x,hx,hk.inv _ _ _ _ a1,a2⟩
 have hnd:((QcO l k).map Prod.fst).Nodup:=(List.filter_sublist.map _).nodup h3
 rcases h6 with⟨g1,g2,g3⟩|⟨j,xx,v0,g1,g2,g3,g4,g5⟩
 ·refine⟨.tuple #[],{ w with heap:=w.heap.setIfInBounds B.b (.map es clock) },φ,?_,?_⟩
  ·simp [execOp,ho,he,hyv,resolve,invoke,builtin,Builtin.delete_,run_underlying (QdU hT),MapKept.run_getObj_map h1,MapKept.run_checkKey hD h5,MapKept.run_findKey hD g2,MapKept.run_setObj_map _ h1]
  rw [hd]
  have hml:QcO l k=l:=List.filter_eq_self.2 fun p hp=>by
   have:p.1≠k:=fun e'=>by rw [show Qbb l k=some p.2 from Qgs h3 (by rw [←e'];exact hp)]at g1;cases g1
   simp [this]
  rw [hml]
  exact write es l h2 h3 h4 old1 old2
 have hjlt:j<es.size:=(QbR.1 g3).1
 have hlist:(es.eraseIdxIfInBounds j).toList=es.toList.eraseIdx j:=by
  unfold Array.eraseIdxIfInBounds
  rw [dif_pos hjlt]
  simp
 have hkeyj:∀i x,es[i]? = some x→x.key=val k→i=j:=fun i x hx hxk=>by
  have hnd:=h2.2.2
  have i1:(es.toList.map (·.key))[i]? = some (val k):=by simp [Qan,hx,hxk]
  have i2:(es.toList.map (·.key))[j]? = some (val k):=by simp [Qan,g3,g4]
  exact(List.getElem?_inj (by simpa using (QbR.1 hx).1) hnd).1 (i1.trans i2.symm)
 have hmem:∀x,x∈(es.eraseIdxIfInBounds j).toList↔x∈es.toList∧x.key≠val k:=fun x=>by
  rw [hlist,List.mem_eraseIdx_iff_getElem?]
  constructor
  ·rintro ⟨i,hne,hi⟩
   have hi':es[i]? = some x:=by simpa using hi
   exact⟨QP hi,fun e'=>hne (hkeyj i x hi' e')⟩
  rintro ⟨hx,hne⟩
  obtain⟨i,hi⟩:=Qeb.1 hx
  refine⟨i,fun e'=>?_,hi⟩
  subst e'
  rw [show es.toList[i]? = some xx by simpa using g3]at hi;cases hi
  exact hne g4
 have hdm:∀p,p∈QcO l k↔p∈l∧p.1≠k:=fun p=>by simp [QcO,List.mem_filter]
 refine⟨.tuple #[],{ w with heap:=w.heap.setIfInBounds B.b (.map (es.eraseIdxIfInBounds j) clock) },φ,?_,?_⟩
 ·simp [execOp,ho,he,hyv,resolve,invoke,builtin,Builtin.delete_,run_underlying (QdU hT),MapKept.run_getObj_map h1,MapKept.run_checkKey hD h5,MapKept.run_findKey hD g2,MapKept.run_setObj_map _ h1]
 rw [hd]
 refine write _ _ (MapKept.stamped_erase h2 j) hnd ?_ (fun x hx=>?_) fun p hp=>?_
 ·have e1:(es.eraseIdxIfInBounds j).size=es.size-1:=by
   have:=congrArg List.length hlist
   rw [List.length_eraseIdx,if_pos (by simpa using hjlt)]at this
   simpa only [Array.length_toList] using this
  have e2:(QcO l k).length+1=l.length:=by
   have hm:=Qhi g1
   have:∀(l:List (κ×α)),(l.map Prod.fst).Nodup→(k,v0)∈l→(QcO l k).length+1=l.length:=by
    intro l
    induction l with
    | nil=>intro _ h;cases h
    | cons p l ih=>
     intro hn hm
     rw [Qb7,Qed]at hn
     rcases Q4.1 hm with rfl | hm
     ·have:QcO ((k,v0)::l) k=l:=by
       unfold QcO
       rw [QcV,if_neg (by simp)]
       exact List.filter_eq_self.2 fun q hq=>by
        have:q.1≠k:=fun e'=>hn.1 (QaI.2 ⟨q,hq,e'⟩)
        simp [this]
      rw [this];rfl
     have hne:p.1≠k:=fun e'=>hn.1 (QaI.2 ⟨_,hm,e'.symm⟩)
     have:QcO (p::l) k=p::QcO l k:=by unfold QcO;rw [QcV,if_pos (by simp [hne])]
     rw [this,Qd9,ih hn.2 hm,Qd9]
   exact this l h3 hm
  rw [e1,h4];omega
 ·obtain⟨hx1,hx2⟩:=(hmem x).1 hx
  obtain⟨p,hp,a1,a2⟩:=old1 x hx1
  exact⟨p,(hdm p).2 ⟨hp,fun e'=>hx2 (by rw [a1,e'])⟩,a1,a2⟩
 obtain⟨hp1,hp2⟩:=(hdm p).1 hp
 obtain⟨x,hx,a1,a2⟩:=old2 p hp1
 exact⟨x,(hmem x).2 ⟨hx,fun e'=>hp2 (hk.inj _ _ (by rw [←a1,e']))⟩,a1,a2⟩
theorem RR.grow {φ:Nat→Option Blk}{a:Act}{w:World}(hr:RR C φ σ a w){b z T:Nat}{rs:List (List V)}{cs:List V}{ys:Array Value}(hb:look σ.hp b=some (.tbl A z rs))(hlt:b<607)(hz:cs.length=z)(h1:∀v∈cs,v.one=true)
  (hs:ys.size=z) (hc:∀(j:Nat) x v,ys[j]? = some x→cs[j]? = some v→Dat (Imm C φ w) w x v):
  ∃φ',RR C φ' ((σ.kill b).set b (.tbl (fun i=>if i=rs.length then w.heap.size else A i) z (rs++[cs]))) a (w.alloc (.cells ys T)):=by
 generalize hA':(fun i=>if i=rs.length then w.heap.size else A i)=A'
 have hnew:A' rs.length=w.heap.size:=by rw [←hA'];simp
 have hold:∀i,i<rs.length→A' i=A i:=fun i hi=>by rw [←hA'];simp [Nat.ne_of_lt hi]
 have hrng:(List.range (rs++[cs]).length).map A'=(List.range rs.length).map A++[w.heap.size]:=by
  rw [Qdj,Qd9,List.length_nil,List.range_succ,List.map_append,Qb7,List.map_nil,hnew]
  congr 1
  exact Qig fun i hi=>hold i (Qec.1 hi)
 have hok:(∀r∈rs,Qcq z r)→∀r∈rs++[cs],Qcq z r:=fun h r hr=>by
  rcases Qea.1 hr with hr | hr
  ·exact h r hr
  rw [Qii.1 hr];exact⟨hz,h1⟩
 have row:∀{I:Nat→Prop},(∀k,Imm C φ w k→I k)→∃cs2 E,(w.alloc (.cells ys T)).heap[w.heap.size]? = some (.cells cs2 E (0,0))∧cs2.size=z∧∀(j:Nat) v,cs[j]? = some v→∃x,cs2[j]? = some x∧Dat I (w.alloc (.cells ys T)) x v:=fun {I} hI=>by
  refine⟨ys,T,heap_alloc_new w _,hs,fun j v hv=>?_⟩
  have hj:j<ys.size:=by rw [hs,←hz];exact(Qx.1 hv).1
  exact⟨ys[j],QbD hj,(hc j _ v (QbD hj) hv).mono fun k hk=>⟨hI k hk,Below.heap_alloc w _ k hk.1⟩⟩
 rcases hr.heap b _ hb with⟨B,hB,hrep⟩|⟨hn,h⟩
 ·let B':Blk:=⟨B.b,B.cap,B.z,B.more++[w.heap.size],B.off⟩
  have hhas:∀k,B'.has k↔B.has k∨k=w.heap.size:=fun k=>by simp [Blk.has,B',or_assoc]
  have hI0:∀k,Imm C φ w k→Imm C (ext φ b B') (w.alloc (.cells ys T)) k:=fun k hk=>⟨by have:=hk.1;simp;omega,hk.2.1,fun o B1 h1=>by
   by_cases e:o=b
   ·subst e;rw [QD]at h1;cases h1
    rw [hhas];rintro (h2 | h2)
    ·exact hk.2.2 _ B hB h2
    have:=hk.1;omega
   rw [Qv _ e]at h1;exact hk.2.2 o B1 h1⟩
  have:=hr.change hB (B':=B') ⟨rfl,rfl,rfl,rfl⟩ (fun h=>absurd hlt (by omega)) (ob:=.tbl A' z (rs++[cs])) (w':=w.alloc (.cells ys T)) rfl rfl rfl (by simp) (fun k hk _=>Below.heap_alloc w _ k hk)
   (fun k hk=>by
    rcases(hhas k).1 hk with h2 | h2
    ·exact⟨by have:=(hr.lt b B k hB h2).1;simp;omega,.inl h2⟩
    ·exact⟨by simp;omega,.inr (by omega)⟩) (by
    refine⟨by rw [hrng,←hrep.1];rfl,?_,hok hrep.2.2.1,fun i q hi=>?_⟩
    ·show((B.b::B.more)++[w.heap.size]).Nodup
     rw [List.nodup_append]
     refine⟨hrep.2.1,by simp,fun x hx y hy=>?_⟩
     rw [Qii.1 hy]
     have:=(hr.lt b B x hB (by unfold Blk.has;exact Q4.1 hx)).1
     omega
    rcases Qa2 i rs.length with hlt' | hge
    ·rw [Qat hlt']at hi
     obtain⟨cs2,E,g1,g2,g3⟩:=hrep.2.2.2 i q hi
     have hAi:A i<w.heap.size:=(hr.lt b B _ hB ((hrep.has _).2 ⟨i,hlt',rfl⟩)).1
     exact⟨cs2,E,by rw [hold i hlt',Below.heap_alloc w _ _ hAi];exact g1,g2,fun j u hu=>let ⟨x',hx',hD⟩:=g3 j u hu;⟨x',hx',hD.mono fun k hk=>⟨hI0 k hk,Below.heap_alloc w _ k hk.1⟩⟩⟩
    have hi0:i=rs.length:=by have:=(Qx.1 hi).1;simp at this;omega
    subst hi0
    rw [Qax (QaO _),Nat.sub_self]at hi
    simp at hi;subst hi
    rw [hnew];exact row hI0)
  have h2:=this.reset b (.tbl A' z (rs++[cs])) ⟨_,St.look_set_same _ _ _⟩ (.inl ⟨B',QD _ _ _,this.block (QD _ _ _) (St.look_set_same _ _ _)⟩)
  rw [St.set_kill]at h2
  exact⟨_,h2⟩
 replace h:rs=[]:=h
 subst h
 have hk:=hr.kill b
 have hnone:look (σ.kill b).hp b=none:=by
  cases h:look (σ.kill b).hp b with
  | none=>rfl
  | some ob=>exact absurd rfl (QaR _ _ _ h).1
 have hdel:del φ b=φ:=by
  funext k
  by_cases e:k=b
  ·subst e;rw [Qhc,hn]
  rw [Qb0 e]
 have hI1:=hk.imm_alloc b 0 0 (.cells ys T) (Qhc _ _)
 refine⟨_,hk.alloc (cap:=0) (z:=0) hnone hlt (ob:=.tbl A' z ([]++[cs])) (obj:=.cells ys T) ⟨?_,by simp,hok (by simp),fun i q hi=>?_⟩⟩
 ·rw [hrng];rfl
 have hi0:i=0:=by have:=(Qx.1 hi).1;simp at this;omega
 subst hi0
 simp at hi;subst hi
 have:A' 0=w.heap.size:=hnew
 rw [this]
 exact row fun k hk'=>(hI1 k (by rw [hdel];exact hk')).1
theorem AK.boxP {Q:Exit→St→Prop}{ops:Array Oper}{rest:List Oper}{ks:List Fr}{T d b z:Nat}{x:Operand}{n:Nat}{cs:List V}{rs rsN:List (List V)}(hg:o.guard=none)(ho:o.op=.box T x)(hd:o.dst=some d)(hn:Nat.ble (d+1) C.n=true)(hx:σ.opd x=some (.agg cs))
  (hb:look σ.hp b=some (.tbl A z rs)) (hlt:Nat.ble 607 b=false) (hz:Nat.beq cs.length z=true) (h1:cs.all V.one=true) (h2:cs.all V.dat=true) (hrn:rs.length=n) (hr2:rs++[cs]=rsN)
  (k:∀A':Nat→Nat,(∀i,i<n→A' i=A i)→AK P C Q (.o ops rest) ks (((σ.kill b).set b (.tbl A' z rsN)).put d (QE A' (some n)))):AK P C Q (.o ops (o::rest)) ks σ:=by
 subst hrn hr2
 intro a w ⟨φ,hr⟩
 simp only [wpListIn,Region.wanted,hg,if_true]
 refine⟨fun _ _=>trivial,?_⟩
 have hv:=hr.opd hx
 obtain⟨hs,hc⟩:=hv.cells (.inr ⟨_,rfl⟩)
 have hex:(execOp a.eval o).run P w=.ok (.value (.pointer (some ⟨w.heap.size,0,none⟩))) (w.alloc (.cells (a.eval x).cells T)):=by simp [execOp,ho,Instr.box,newVar,newRow]
 rw [Qj3 hex]
 rw [QG]at h1 h2
 have hz':=QQ hz
 have hlt':b<607:=by
  rcases Qa2 b 607 with h | h
  ·exact h
  rw [Qef h]at hlt;cases hlt
 obtain⟨φ',hr'⟩:=hr.grow (T:=T) (ys:=(a.eval x).cells) hb hlt' hz' h1 (by rw [hs];exact hz') fun j x' v hx' hv'=>(hc j x' v hx' hv').toDat (h2 v (QP hv'))
 refine k (fun i=>if i=rs.length then w.heap.size else A i) (fun i hi=>by simp [Nat.ne_of_lt hi]) _ _ ⟨φ',?_⟩
 rw [hd]
 refine hr'.put (QL hn) ?_
 have:(QE (fun i=>if i=rs.length then w.heap.size else A i) (some rs.length))=.lit (.pointer (some ⟨w.heap.size,0,none⟩)):=by simp [QE]
 rw [this]
 exact .dat (.lit _)
theorem AK.newTbl {Q:Exit→St→Prop}{pt:Pt}{ks:List Fr}(b z:Nat)(A:Nat→Nat)(hb:look σ.hp b=none)(hlt:Nat.ble 607 b=false)(k:AK P C Q pt ks (σ.set b (.tbl A z []))):AK P C Q pt ks σ:=by
 have hlt':b<607:=by
  rcases Qa2 b 607 with h | h
  ·exact h
  rw [Qef h]at hlt;cases hlt
 refine AK.weaken (fun a w ⟨φ,h⟩=>⟨φ,?_⟩) k
 have hn:=h.none_of_look hb
 refine⟨h.os,h.tape,h.output,h.size,h.kept,h.inj,?_,h.lt,h.new,⟨h.stay.1,fun o ob B hge ho hB=>h.stay.2 o ob B hge (by rwa [σ.look_set_other _ (by omega)]at ho) hB⟩,h.tmps,h.defers,h.frame,?_⟩
 ·intro o B hB
  by_cases e:o=b
  ·subst e;exact⟨_,σ.look_set_same _ _⟩
  obtain⟨ob,h1⟩:=h.dom o B hB;exact⟨ob,by rw [σ.look_set_other _ (Ne.symm e)];exact h1⟩
 intro o ob hob
 by_cases e:o=b
 ·subst e;rw [σ.look_set_same]at hob;cases hob;exact .inr ⟨hn,rfl⟩
 rw [σ.look_set_other _ (Ne.symm e)]at hob;exact h.heap o ob hob
def okP (n:Nat)(p:Option Nat):Bool:=match p with
 | some k=>decide (k<n)
 | none=>true
theorem QkQ {A':Nat→Nat}{n:Nat}{p:Option Nat}(h:∀i,i<n→A' i=A i)(hp:okP n p=true):QE A p=QE A' p:=by
 cases p with
 | none=>rfl
 | some k=>simp only [okP,QdP]at hp;simp [QE,h k hp]
theorem QmL {A':Nat→Nat}{n:Nat}{l:List (Option Nat)}(h:∀i,i<n→A' i=A i)(hl:l.all (okP n)=true):l.map (Qw A)=l.map (Qw A'):=by
 rw [QG]at hl
 exact Qig fun p hp=>by rw [Qw,Qw,QkQ h (hl p hp)]
theorem QmM {κ:Type}{e:κ→V}{A':Nat→Nat}{n:Nat}{l:List (κ×Option Nat)}(h:∀i,i<n→A' i=A i)(hl:l.all (fun q=>okP n q.2)=true):QA e (QE A) l=QA e (QE A') l:=by
 rw [QG]at hl
 exact Qig fun p hp=>by rw [QkQ h (hl p hp)]
end
end Go.Vm
namespace Go.Vm
open Go Go.RowKit Go.Shelf Go.Lib Go.Proofs
theorem QdR {P:Program}(w:World)(dT sT ty elem:TypeId)(g o dLen dCap:Nat)(a:Addr)(sLen sCap z m:Nat)(cur:Array Value)(t:TypeId)(cs:List Value)
  (hu:P.underlying dT=some (.slice elem)) (hs:(P.info? elem).map (·.size)=some z)
  (hg:w.heap[g]? = some (.cells cur t (0,0))) (hm:Nat.min sLen dLen=m) (hn:cs.length=m*z)
  (hsrc:∀(j:Nat) v,cs[j]? = some v→w.cell? (a.add j)=some v) (hfit:o+cs.length≤cur.size) (h1:∀v∈cs,v.oneCell'=true):
  (Builtin.copy_ #[dT,sT] ty #[.slice (some ⟨g,o,none⟩) dLen dCap,.slice (some a) sLen sCap]).run P w =
   .ok (goInt m) (w.setRow g (cur.toList.take o++cs++cur.toList.drop (o+cs.length)).toArray):=by
 have hl:=run_loadCells_list (P:=P) w a cs hsrc
 have hst:=run_storeCells_at P g o t cs 0 cur w hg (by simpa using hfit) h1
 cases hq:P.info? elem with
 | none=>simp [hq]at hs
 | some i=>
  have hi:i.size=z:=by simpa [hq] using hs
  simp [Builtin.copy_,run_underlying hu,Builtin.lenOf,Builtin.firstCells,sizeOf,typeInfo,hq,hi,hm,←hn,hl,hst]
noncomputable def Qm6 (ρ:Ren)(nm:String):Func:={ Body2.n22 ρ with name:=nm }
noncomputable def ovF (ρ:Ren)(nm:String):Func:={ Body2.n29 ρ with name:=nm }
theorem Qhv (ρ:Ren)(nm:String):(Qm6 ρ nm).ntmps=95:=rfl
structure Qh6 (P:Program) (ρ:Ren) (n1 n2:String) (E z by_:Nat) (zv:Value):Prop where
 mixed:P.follows .mixedOrders=true
 f22:P.funcs[ρ.f 22]? = some (Qm6 ρ n1)
 f29:P.funcs[ρ.f 29]? = some (ovF ρ n2)
 nm:(n2 == "runtime.NumGoroutine")=false
 nx:Extern.findNext (ovF ρ n2)=none
 fd:Extern.find (ovF ρ n2)=some (Extern.SlicesOverlaps.overlaps #[(ρ.t 24),(ρ.t 24)] #[(ρ.t 4)])
 t0:P.underlying (ρ.t 0)=some (TypeDesc.tuple #[])
 t3:P.underlying (ρ.t 3)=some (TypeDesc.int IntKind.i64)
 t4:P.underlying (ρ.t 4)=some (TypeDesc.bool)
 t24:P.underlying (ρ.t 24)=some (TypeDesc.slice E)
 zE:∀w,(Go.sizeOf E).run P w=.ok z w
 iE:(P.info? E).map (fun i=>(i.zero,i.size,i.bytes))=some (some zv,z,by_)
 zc:zv.cells.size=z
 z0:0<z
 small:by_≤32768
variable {P:Program}{ρ:Ren}{n1 n2:String}{E z by_:Nat}{zv:Value}
theorem QeW (l:List Value)(o:Nat)(vs:List Value)(h:o+vs.length≤l.length)(k:Nat):
  (l.take o++vs++l.drop (o+vs.length))[k]? = if k<o then l[k]? else if k<o+vs.length then vs[k-o]? else l[k]? := by
 by_cases h1:k<o
 ·rw [if_pos h1,Qcn,Qat (by simp;omega),Qau,if_pos h1]
 rw [if_neg h1]
 by_cases h2:k<o+vs.length
 ·rw [if_pos h2,Qat (by simp;omega),Qax (by simp;omega)];congr 1;simp;omega
 rw [if_neg h2,Qax (by simp;omega),Qa0];congr 1;simp;omega
theorem QcH (l:List Value)(o:Nat)(vs:List Value)(h:o+vs.length≤l.length):(l.take o++vs++l.drop (o+vs.length)).length=l.length:=by simp;omega
set_option maxHeartbeats 4000000 in
set_option maxRecDepth 605 in
theorem QlQ (L:Qh6 P ρ n1 n2 E z by_ zv)(b off n c i vb voff vc:Nat)(cur vcur:Array Value)(Eb Ev:TypeId)(cs vs:List Value)(w:World)(hi:i<n)(hroom:n+1≤c)(hn32:n+1≤4294967296)(hg:w.heap[b]? = some (.cells cur Eb (0,0)))
  (hfit:off+c*z≤cur.size) (hcl:cs.length=n*z) (hcs:∀(j:Nat) v,cs[j]? = some v→cur[off+j]? = some v) (h1c:∀v∈cs,v.oneCell'=true) (hvl:vs.length=z) (hvg:w.heap[vb]? = some (.cells vcur Ev (0,0)))
  (hvs:∀(j:Nat) v,vs[j]? = some v→vcur[voff+j]? = some v) (hvb:vb≠b) (h1v:∀v∈vs,v.oneCell'=true):
  Calls P (ρ.f 22) #[.slice (some ⟨b,off,none⟩) n c,.int .i64 i,.slice (some ⟨vb,voff,none⟩) 1 vc] w fun e w'=>
   e=.returned (.slice (some ⟨b,off,none⟩) (n+1) c)∧w'.os=w.os∧w'.tape=w.tape∧w'.output=w.output∧w'.heap.size=w.heap.size∧(∀k,k≠b→w'.heap[k]? = w.heap[k]?)∧
   ∃cur':Array Value,w'.heap[b]? = some (.cells cur' Eb (0,0))∧cur'.size=cur.size∧∀(j:Nat) v,(cs.take (i*z)++vs++cs.drop (i*z))[j]? = some v→cur'[off+j]? = some v:=by
 have t0:=L.t0;have t3:=L.t3;have t4:=L.t4;have t24:=L.t24
 have u0:=run_underlying L.t0;have u3:=run_underlying L.t3;have u4:=run_underlying L.t4;have u24:=run_underlying L.t24
 have zE:=L.zE
 have mixed:=L.mixed
 obtain⟨i0,hi0,hz0,hzs,hzb⟩:=info_parts L.iE
 have hsz:(P.info? E).map (·.size)=some z:=by rw [hi0];simp [hzs]
 have hzp:=L.z0
 have hnz:n*z+z≤c*z:=by have:=Qao z hroom;rwa [Q9,QdO]at this
 have hin:(i+1)*z≤n*z:=Qao z hi
 have hi1:(i+1)*z=i*z+z:=by rw [Q9,QdO]
 have hov:∀lb cb,(callFunc (ρ.f 29) #[.slice (some ⟨vb,voff,none⟩) 1 vc,.slice (some ⟨b,off+(i*z+z),none⟩) lb cb]).run P w=.ok (.value (.bool false)) w:=fun lb cb=>by
  rw [run_callFunc_extern L.f29 L.nm rfl L.nx L.fd,
   Lib.run_overlaps_apart w (ρ.t 24) (ρ.t 4) E L.t24 z L.zE ⟨vb,voff,none⟩ ⟨b,off+(i*z+z),none⟩ 1 vc lb cb hvb Ev Eb vcur.size cur.size (by simp [World.shape?,hvg]) (by simp [World.shape?,hg]) (by omega) (by simp [World.frozen?,hvg]) (by simp [World.frozen?,hvg])]
  rfl
 have hz1:¬((1:Int)=0):=by omega
 have hz2:¬((i:Int)=(n:Int)):=by omega
 have hdl:(cs.drop (i*z)).length=(n-i)*z:=by rw [List.length_drop,hcl,Nat.sub_mul]
 have hw1:IntKind.i64.wrap ((i:Int)+1)=(i:Int)+1:=by rw [IntKind.wrap_i64];omega
 have hw2:IntKind.i64.wrap ((n:Int)+1)=(n:Int)+1:=by rw [IntKind.wrap_i64];omega
 have hb0:(0:Int)≤(i:Int):=by omega
 have hb1:(0:Int)≤(i:Int)+1:=by omega
 have hb5:(0:Int)≤(n:Int)+1:=by omega
 have hin':i≤n:=by omega
 have htn:((i:Int)+1).toNat=i+1:=by omega
 have htn2:((n:Int)+1).toNat=n+1:=by omega
 have hb2:¬(c=i+1):=by omega
 have hb3:(i:Int)≤(n:Int)+1:=by omega
 have hb4:¬(c=i):=by omega
 have hb6:(i:Int)+1≤(n:Int)+1:=by omega
 have hb7:¬((c:Int)<(n:Int)+1):=by omega
 have hb8:(n:Int)+1≤(c:Int):=by omega
 have hb9:(i:Int)≤(n:Int):=by omega
 obtain⟨cur1,hcur1⟩:∃cur1:Array Value,cur1=(cur.toList.take (off+(i*z+z))++cs.drop (i*z)++cur.toList.drop (off+(i*z+z)+(cs.drop (i*z)).length)).toArray:=⟨_,rfl⟩
 have hni:n*z=i*z+(n-i)*z:=by rw [←Q9];congr 1;omega
 have hl1:off+(i*z+z)+(cs.drop (i*z)).length≤cur.toList.length:=by rw [hdl];simp;omega
 have hs1:cur1.size=cur.size:=by rw [hcur1];simpa using QcH cur.toList _ _ hl1
 have hcp1:∀ty dc sc,(Builtin.copy_ #[(ρ.t 24),(ρ.t 24)] ty #[.slice (some ⟨b,off+(i*z+z),none⟩) (n-i) dc,.slice (some ⟨b,off+i*z,none⟩) (n+1-i) sc]).run P w.drew=.ok (goInt (n-i:Nat)) (w.drew.setRow b cur1):=fun ty dc sc=>by
  rw [hcur1]
  exact QdR w.drew _ _ ty E b (off+(i*z+z)) (n-i) dc ⟨b,off+i*z,none⟩ (n+1-i) sc z (n-i) cur Eb (cs.drop (i*z)) L.t24 hsz hg (by simp only [Nat.min_def];split<;>omega) hdl
   (fun j v hj=>by
    rw [Qa0]at hj
    have:=hcs _ v hj
    rw [Addr.add_lit]
    show(match w.heap[b]? with | some (.cells c _ _)=>c[off+i*z+j]? | _=>none)=some v
    simp only [hg,Qee,this]) (by simpa using hl1) (fun v hv=>h1c v (QeM hv))
 obtain⟨cur2,hcur2⟩:∃cur2:Array Value,cur2=(cur1.toList.take (off+i*z)++vs++cur1.toList.drop (off+i*z+vs.length)).toArray:=⟨_,rfl⟩
 have hl2:off+i*z+vs.length≤cur1.toList.length:=by rw [hvl];simp [hs1];omega
 have hs2:cur2.size=cur.size:=by rw [hcur2,←hs1];simpa using QcH cur1.toList _ _ hl2
 have hcp2:∀(W:World),W.heap=(w.setRow b cur1).heap→∀ty dc,(Builtin.copy_ #[(ρ.t 24),(ρ.t 24)] ty #[.slice (some ⟨b,off+i*z,none⟩) (n+1-i) dc,.slice (some ⟨vb,voff,none⟩) 1 vc]).run P W=.ok (goInt (1:Nat)) (W.setRow b cur2):=fun W hW ty dc=>by
  rw [hcur2]
  exact QdR W _ _ ty E b (off+i*z) (n+1-i) dc ⟨vb,voff,none⟩ 1 vc z 1 cur1 Eb vs L.t24 hsz (by rw [hW];exact setRow_heap w b cur _ Eb _ hg) (by simp only [Nat.min_def];split<;>omega) (by rw [hvl,QdO])
   (fun j v hj=>by
    have:=hvs _ v hj
    rw [Addr.add_lit]
    have hh:W.heap[vb]? = some (.cells vcur Ev (0,0)):=by rw [hW,setRow_other w b vb _ hvb];exact hvg
    show(match W.heap[vb]? with | some (.cells c _ _)=>c[voff+j]? | _=>none)=some v
    simp only [hh,this]) (by simpa using hl2) h1v
 have hfin:∀(j:Nat) v,(cs.take (i*z)++vs++cs.drop (i*z))[j]? = some v→cur2[off+j]? = some v:=fun j v hj=>by
  have e1:∀k:Nat,cur1.toList[k]? = if k<off+(i*z+z)then cur.toList[k]? else if k<off+(i*z+z)+(cs.drop (i*z)).length then(cs.drop (i*z))[k-(off+(i*z+z))]? else cur.toList[k]? := fun k=>by rw [hcur1,List.toList_toArray];exact QeW _ _ _ hl1 k
  rw [hcur2,Qco,QeW _ _ _ hl2]
  have htl:(cs.take (i*z)).length=i*z:=by rw [Qf0,hcl];omega
  by_cases h1:j<i*z
  ·rw [Qcn,Qat (by omega),Qau,if_pos h1]at hj
   rw [if_pos (by omega),e1,if_pos (by omega)]
   simpa using hcs j v hj
  by_cases h2:j<i*z+z
  ·rw [Qat (by rw [Qdj];omega),Qax (by omega)]at hj
   rw [if_neg (by omega),if_pos (by omega),←hj];congr 1;omega
  rw [Qax (by rw [Qdj];omega)]at hj
  have hjl:=(Qx.1 hj).1
  rw [hdl,Qdj]at hjl
  rw [if_neg (by omega),if_neg (by omega),e1,if_neg (by omega),if_pos (by rw [hdl];omega),←hj];congr 1;rw [Qdj];omega
 have hlast:∀W:World,W.heap=((w.setRow b cur1).setRow b cur2).heap→W.heap.size=w.heap.size∧(∀k,k≠b→W.heap[k]? = w.heap[k]?)∧
   ∃cur':Array Value,W.heap[b]? = some (.cells cur' Eb (0,0))∧cur'.size=cur.size∧∀(j:Nat) v,(cs.take (i*z)++vs++cs.drop (i*z))[j]? = some v→cur'[off+j]? = some v:=fun W hW=>by
  refine⟨by rw [hW];simp,fun k hk=>by rw [hW,setRow_other _ b k _ hk,setRow_other _ b k _ hk],cur2,?_,hs2,hfin⟩
  rw [hW];exact setRow_heap _ b cur1 _ Eb _ (setRow_heap w b cur _ Eb _ hg)
 clear hfin hs2 hl2 hcur2 hs1 hl1 hcur1
 go_enter L.f22,Qhv ρ n1
 go_wp2_with (simp only [hov])
 go_region_law_o (refine step_copy_runI rfl _ _ (ρ.t 24) (ρ.t 24) rfl _ _ (by simp [Act.eval,Act.put]) (by simp [Act.eval,Act.put]) (hcp1 _ _ _) ?_)
 go_wp2_with (refine wpList_copy_runI _ rfl _ _ (ρ.t 24) (ρ.t 24) rfl _ _ rfl rfl (hcp2 _ (by rfl) _ _) ?_)
 go_ret
 exact⟨rfl,rfl,rfl,rfl,hlast _ rfl⟩
set_option maxHeartbeats 4000000 in
set_option maxRecDepth 605 in
theorem Qmn (L:Qh6 P ρ n1 n2 E z by_ zv)(b off n c i vb voff vc:Nat)(cur vcur:Array Value)(Eb Ev:TypeId)(cs vs:List Value)(w:World)(hi:i<n)(hnc:n≤c)(hroom:c<n+1)(hn32:n+1≤4294967296)(hg:w.heap[b]? = some (.cells cur Eb (0,0)))
  (hcl:cs.length=n*z) (hcs:∀(j:Nat) v,cs[j]? = some v→cur[off+j]? = some v) (h1c:∀v∈cs,v.oneCell'=true) (hvl:vs.length=z) (hvg:w.heap[vb]? = some (.cells vcur Ev (0,0)))
  (hvs:∀(j:Nat) v,vs[j]? = some v→vcur[voff+j]? = some v) (h1v:∀v∈vs,v.oneCell'=true):
  Calls P (ρ.f 22) #[.slice (some ⟨b,off,none⟩) n c,.int .i64 i,.slice (some ⟨vb,voff,none⟩) 1 vc] w fun e w'=>
   ∃G,n+1≤G∧e=.returned (.slice (some ⟨w.heap.size,0,none⟩) (n+1) G)∧w'.os=w.os∧w'.tape=w.tape∧w'.output=w.output∧w'.heap.size=w.heap.size+1∧(∀k,k<w.heap.size→w'.heap[k]? = w.heap[k]?)∧
   ∃cur':Array Value,w'.heap[w.heap.size]? = some (.cells cur' E (0,0))∧cur'.size=G*z∧∀(j:Nat) v,(cs.take (i*z)++vs++cs.drop (i*z))[j]? = some v→cur'[j]? = some v:=by
 have t0:=L.t0;have t3:=L.t3;have t4:=L.t4;have t24:=L.t24
 have u0:=run_underlying L.t0;have u3:=run_underlying L.t3;have u4:=run_underlying L.t4;have u24:=run_underlying L.t24
 have zE:=L.zE
 have mixed:=L.mixed
 obtain⟨i0,hi0,hz0,hzs,hzb⟩:=info_parts L.iE
 have hsz:(P.info? E).map (·.size)=some z:=by rw [hi0];simp [hzs]
 have hzp:=L.z0
 have hsm:=L.small
 have hin:(i+1)*z≤n*z:=Qao z hi
 have hi1:(i+1)*z=i*z+z:=by rw [Q9,QdO]
 have hbw:b<w.heap.size:=(QbR.1 hg).1
 have hvw:vb<w.heap.size:=(QbR.1 hvg).1
 have hkk:(n:Int)+1-(i:Int)=((n+1-i:Nat):Int):=by omega
 have hik:i+(n+1-i)=n+1:=by omega
 have hbig:(n+1)*by_≤140737488355328:=by
  have:(n+1)*by_≤4294967296*32768:=Nat.mul_le_mul hn32 hsm
  omega
 have htl:(cs.take (i*z)).length=i*z:=by rw [Qf0,hcl];omega
 have hold:(Builtin.firstCells i0.size i (.slice (some ⟨b,off,none⟩) i c)).run P w.drew=.ok (cs.take (i*z)).toArray w.drew:=by
  rw [hzs]
  exact run_firstCells_some w.drew z i ⟨b,off,none⟩ i c (cs.take (i*z)) htl (fun j v hj=>by
   rw [Addr.add_lit]
   rw [Qau]at hj
   split at hj
   ·show(match w.heap[b]? with | some (.cells c _ _)=>c[off+j]? | _=>none)=some v
    simp only [hg,hcs j v hj]
   cases hj)
 have hrz:∀ty,(Builtin.append_ #[(ρ.t 24),(ρ.t 3)] ty #[.slice (some ⟨b,off,none⟩) i c,.int .i64 ((n:Int)+1-(i:Int))]).run P w =
   .ok (.slice (some ⟨w.heap.size,0,none⟩) (n+1) (grownCap w (n+1) c E)) (w.drew.alloc (.cells ((cs.take (i*z)).toArray++Builtin.zeroCells zv.cells (n+1-i)++Builtin.zeroCells zv.cells (grownCap w (n+1) c E-(n+1))) E)):=fun ty=>by
  have h:=Lib.run_append_grow_zeros w (ρ.t 24) (ρ.t 3) ty E i0 _ .i64 .i64 L.t24 L.t3 hi0 hz0 (some ⟨b,off,none⟩) i c (cs.take (i*z)) hold (n+1-i) (by omega) (by rw [hzs];omega) (by omega) (by omega)
   (by rw [hzb];have:(n+1-i)*by_≤(n+1)*by_:=Qao _ (by omega);omega) (by rw [hzb,hik];exact growslice_fits hroom hbig)
  rw [hik]at h
  rw [hkk]
  exact h
 have hGn:n+1≤grownCap w (n+1) c E:=grownCap_ge w _ _ _
 obtain⟨G,hG⟩:∃G,G=grownCap w (n+1) c E:=⟨_,rfl⟩
 rw [←hG]at hrz hGn
 obtain⟨ROW,hROW⟩:∃ROW:Array Value,ROW=(cs.take (i*z)).toArray++Builtin.zeroCells zv.cells (n+1-i)++Builtin.zeroCells zv.cells (G-(n+1)):=⟨_,rfl⟩
 rw [←hROW]at hrz
 have hRl:ROW.size=G*z:=by
  rw [hROW]
  simp only [Array.size_append,Qg3,htl,size_zeroCells,L.zc,←Q9]
  congr 1;omega
 have hRold:∀(j:Nat) v,(cs.take (i*z))[j]? = some v→ROW[j]? = some v:=fun j v hj=>by
  have hjl:=(Qx.1 hj).1
  rw [hROW,Qjk (by simp;omega),Qjk (by simpa using hjl)]
  simpa using hj
 have hGz:(n+1)*z≤G*z:=Qao z hGn
 have hn1:(n+1)*z=n*z+z:=by rw [Q9,QdO]
 have hdl:(cs.drop (i*z)).length=(n-i)*z:=by rw [List.length_drop,hcl,Nat.sub_mul]
 have hni:n*z=i*z+(n-i)*z:=by rw [←Q9];congr 1;omega
 obtain⟨row1,hrow1⟩:∃row1:Array Value,row1=(ROW.toList.take (i*z)++vs++ROW.toList.drop (i*z+vs.length)).toArray:=⟨_,rfl⟩
 have hl1:i*z+vs.length≤ROW.toList.length:=by rw [hvl];simp [hRl];omega
 have hs1:row1.size=G*z:=by rw [hrow1,←hRl];simpa using QcH ROW.toList _ _ hl1
 obtain⟨row2,hrow2⟩:∃row2:Array Value,row2=(row1.toList.take (i*z+z)++cs.drop (i*z)++row1.toList.drop (i*z+z+(cs.drop (i*z)).length)).toArray:=⟨_,rfl⟩
 have hl2:i*z+z+(cs.drop (i*z)).length≤row1.toList.length:=by rw [hdl];simp [hs1];omega
 have hs2:row2.size=G*z:=by rw [hrow2,←hs1];simpa using QcH row1.toList _ _ hl2
 obtain⟨W1,hW1⟩:∃W1,W1=w.drew.alloc (.cells ROW E):=⟨_,rfl⟩
 have hN:W1.heap[w.heap.size]? = some (.cells ROW E (0,0)):=by rw [hW1];exact heap_alloc_new w.drew _
 have hO:∀k,k<w.heap.size→W1.heap[k]? = w.heap[k]? := fun k hk=>by rw [hW1];exact Below.heap_alloc w.drew _ k hk
 have hWs:W1.heap.size=w.heap.size+1:=by rw [hW1];simp
 rw [←hW1]at hrz
 have hcpA:∀(W:World),W.heap=W1.heap→∀ty dc,(Builtin.copy_ #[(ρ.t 24),(ρ.t 24)] ty #[.slice (some ⟨w.heap.size,i*z,none⟩) (n+1-i) dc,.slice (some ⟨vb,voff,none⟩) 1 vc]).run P W=.ok (goInt (1:Nat)) (W.setRow w.heap.size row1):=fun W hW ty dc=>by
  rw [hrow1]
  exact QdR W _ _ ty E w.heap.size (i*z) (n+1-i) dc ⟨vb,voff,none⟩ 1 vc z 1 ROW E vs L.t24 hsz (by rw [hW];exact hN) (by simp only [Nat.min_def];split<;>omega) (by rw [hvl,QdO])
   (fun j v hj=>by
    have:=hvs _ v hj
    rw [Addr.add_lit]
    have hh:W.heap[vb]? = some (.cells vcur Ev (0,0)):=by rw [hW,hO _ hvw];exact hvg
    show(match W.heap[vb]? with | some (.cells c _ _)=>c[voff+j]? | _=>none)=some v
    simp only [hh,this]) (by simpa using hl1) h1v
 have hcpB:∀(W:World),W.heap=(W1.setRow w.heap.size row1).heap→∀ty dc sc,(Builtin.copy_ #[(ρ.t 24),(ρ.t 24)] ty #[.slice (some ⟨w.heap.size,i*z+z,none⟩) (n-i) dc,.slice (some ⟨b,off+i*z,none⟩) (n-i) sc]).run P W=.ok (goInt (n-i:Nat)) (W.setRow w.heap.size row2):=fun W hW ty dc sc=>by
  rw [hrow2]
  exact QdR W _ _ ty E w.heap.size (i*z+z) (n-i) dc ⟨b,off+i*z,none⟩ (n-i) sc z (n-i) row1 E (cs.drop (i*z)) L.t24 hsz (by rw [hW];exact setRow_heap W1 _ ROW _ E _ hN) (Nat.min_self _) hdl
   (fun j v hj=>by
    rw [Qa0]at hj
    have:=hcs _ v hj
    rw [Addr.add_lit]
    have hh:W.heap[b]? = some (.cells cur Eb (0,0)):=by rw [hW,setRow_other W1 _ b _ (by omega),hO _ hbw];exact hg
    show(match W.heap[b]? with | some (.cells c _ _)=>c[off+i*z+j]? | _=>none)=some v
    simp only [hh,Qee,this]) (by simpa using hl2) (fun v hv=>h1c v (QeM hv))
 have hfin:∀(j:Nat) v,(cs.take (i*z)++vs++cs.drop (i*z))[j]? = some v→row2[j]? = some v:=fun j v hj=>by
  have e1:∀k:Nat,row1.toList[k]? = if k<i*z then ROW.toList[k]? else if k<i*z+vs.length then vs[k-i*z]? else ROW.toList[k]? := fun k=>by rw [hrow1,List.toList_toArray];exact QeW _ _ _ hl1 k
  rw [hrow2,Qco,QeW _ _ _ hl2]
  by_cases h1:j<i*z
  ·rw [Qcn,Qat (by omega)]at hj
   rw [if_pos (by omega),e1,if_pos (by omega)]
   simpa using hRold j v hj
  by_cases h2:j<i*z+z
  ·rw [Qat (by rw [Qdj];omega),Qax (by omega)]at hj
   rw [if_pos (by omega),e1,if_neg h1,if_pos (by omega),←hj];congr 1;omega
  rw [Qax (by rw [Qdj];omega)]at hj
  have hjl:=(Qx.1 hj).1
  rw [Qdj]at hjl
  rw [if_neg (by omega),if_pos (by omega),←hj];congr 1;rw [Qdj];omega
 have hlast:∀W:World,W.heap=((W1.setRow w.heap.size row1).setRow w.heap.size row2).heap→W.heap.size=w.heap.size+1∧(∀k,k<w.heap.size→W.heap[k]? = w.heap[k]?)∧
   ∃cur':Array Value,W.heap[w.heap.size]? = some (.cells cur' E (0,0))∧cur'.size=G*z∧∀(j:Nat) v,(cs.take (i*z)++vs++cs.drop (i*z))[j]? = some v→cur'[j]? = some v:=fun W hW=>by
  refine⟨by rw [hW];simp [hWs],fun k hk=>by rw [hW,setRow_other _ _ k _ (by omega),setRow_other _ _ k _ (by omega),hO k hk],row2,?_,hs2,hfin⟩
  rw [hW];exact setRow_heap _ _ row1 _ E _ (setRow_heap W1 _ ROW _ E _ hN)
 have hWo:W1.os=w.os∧W1.tape=w.tape∧W1.output=w.output:=by rw [hW1];exact⟨rfl,rfl,rfl⟩
 have hz1:¬((1:Int)=0):=by omega
 have hz2:¬((i:Int)=(n:Int)):=by omega
 have hz3:(c:Int)<(n:Int)+1:=by omega
 have hw1:IntKind.i64.wrap ((i:Int)+1)=(i:Int)+1:=by rw [IntKind.wrap_i64];omega
 have hw2:IntKind.i64.wrap ((n:Int)+1)=(n:Int)+1:=by rw [IntKind.wrap_i64];omega
 have hw3:IntKind.i64.wrap ((n:Int)+1-(i:Int))=(n:Int)+1-(i:Int):=by rw [IntKind.wrap_i64];omega
 have hb0:(0:Int)≤(i:Int):=by omega
 have hb1:(0:Int)≤(i:Int)+1:=by omega
 have htn:((i:Int)+1).toNat=i+1:=by omega
 have hb3:(i:Int)≤(n:Int):=by omega
 have hb4:(i:Int)≤(c:Int):=by omega
 have hb5:(i:Int)≤(n:Int)+1:=by omega
 have hb6:(i:Int)+1≤(n:Int)+1:=by omega
 have hGi:¬(G=i):=by omega
 have hGim:¬(G=i+1):=by omega
 have hci:¬(c=i):=by omega
 clear hfin hs2 hl2 hrow2 hs1 hl1 hrow1 hO hN hWs hRold hRl hROW hG hold hkk hik hW1
 go_enter L.f22,Qhv ρ n1
 go_wp2_with (first
  | (at_builtin;refine Lib.wpList_append_run _ rfl _ _ _ _ rfl _ _ rfl rfl _ _ (hrz _) ?_)
  | (refine wpList_copy_runI _ rfl _ _ (ρ.t 24) (ρ.t 24) rfl _ _ rfl rfl (hcpA _ (by rfl) _ _) ?_))
 go_region_law_o (refine step_copy_runI rfl _ _ (ρ.t 24) (ρ.t 24) rfl (.slice (some ⟨w.heap.size,i*z+z,none⟩) (n-i) (G-(i+1))) (.slice (some ⟨b,off+i*z,none⟩) (n-i) (c-i)) (by simp [Act.eval,Act.put]) (by simp [Act.eval,Act.put]) (hcpB _ (by rfl) _ _ _) ?_)
 go_wp2
 go_ret
 exact⟨G,hGn,rfl,hWo.1,hWo.2.1,hWo.2.2,hlast _ rfl⟩
set_option maxHeartbeats 4000000 in
set_option maxRecDepth 605 in
theorem Qjv (L:Qh6 P ρ n1 n2 E z by_ zv)(base va:Option Addr)(n c vc:Nat)(w:World)(v':Value)(w':World)
  (hrz:∀ty,(Builtin.append_ #[(ρ.t 24),(ρ.t 24)] ty #[.slice base n c,.slice va 1 vc]).run P w=.ok v' w'):
  Calls P (ρ.f 22) #[.slice base n c,.int .i64 n,.slice va 1 vc] w fun e w2=>e=.returned v'∧w2=w':=by
 have t0:=L.t0;have t3:=L.t3;have t4:=L.t4;have t24:=L.t24
 have u0:=run_underlying L.t0;have u3:=run_underlying L.t3;have u4:=run_underlying L.t4;have u24:=run_underlying L.t24
 have zE:=L.zE
 have mixed:=L.mixed
 have hz1:¬((1:Int)=0):=by omega
 have hb0:(0:Int)≤(n:Int):=by omega
 go_enter L.f22,Qhv ρ n1
 go_wp2_with (at_builtin;refine Lib.wpList_append_run _ rfl _ _ _ _ rfl _ _ rfl rfl _ _ (hrz _) ?_)
 all_goals
  go_ret
  exact⟨rfl,rfl⟩
def Qa7 (I:Nat→Prop)(w:World)(z:Nat)(l:List Value)(rs:List (List V)):Prop:=l.length=rs.length*z∧(∀r∈rs,Qcq z r)∧(∀u∈l,u.oneCell'=true)∧∀(i:Nat) r,rs[i]? = some r→∀(j:Nat) v,r[j]? = some v→∃u,l[i*z+j]? = some u∧Dat I w u v
theorem Qa7.append {I:Nat→Prop}{w:World}{l m:List Value}{rs us:List (List V)}(h:Qa7 I w z l rs)(k:Qa7 I w z m us):Qa7 I w z (l++m) (rs++us):=by
 obtain⟨h1,h2,h3,h4⟩:=h
 obtain⟨k1,k2,k3,k4⟩:=k
 obtain⟨g1,g2⟩:=QeP (rest:=[]) (n:=rs.length) rfl h1 h2 k2 k1 h4 k4
 refine⟨by rw [Qdj,Qdj,h1,k1,Q9],g1,fun u hu=>(Qea.1 hu).elim (h3 u) (k3 u),by simpa using g2⟩
theorem Qa7.take {I:Nat→Prop}{w:World}{l:List Value}{rs:List (List V)}(h:Qa7 I w z l rs){i:Nat}(hi:i≤rs.length):Qa7 I w z (l.take (i*z)) (rs.take i):=by
 obtain⟨h1,h2,h3,h4⟩:=h
 have hle:i*z≤rs.length*z:=Qao z hi
 refine⟨by rw [Qf0,Qf0,h1,Nat.min_eq_left hle,Nat.min_eq_left hi],fun r hr=>h2 r (QcW hr),fun u hu=>h3 u (QcW hu),fun k r hk j v hj=>?_⟩
 rw [Qau]at hk
 split at hk
 ·rename_i hki
  obtain⟨u,hu,hD⟩:=h4 k r hk j v hj
  have hjz:j<z:=by have:=(Qx.1 hj).1;rwa [(h2 r (QP hk)).1]at this
  have:(k+1)*z≤i*z:=Qao z hki
  rw [Q9]at this
  exact⟨u,by rw [Qau,if_pos (by omega)];exact hu,hD⟩
 cases hk
theorem Qa7.drop {I:Nat→Prop}{w:World}{l:List Value}{rs:List (List V)}(h:Qa7 I w z l rs){i:Nat}(hi:i≤rs.length):Qa7 I w z (l.drop (i*z)) (rs.drop i):=by
 obtain⟨h1,h2,h3,h4⟩:=h
 refine⟨by rw [List.length_drop,List.length_drop,h1,Nat.sub_mul],fun r hr=>h2 r (QeM hr),fun u hu=>h3 u (QeM hu),fun k r hk j v hj=>?_⟩
 rw [Qa0]at hk
 obtain⟨u,hu,hD⟩:=h4 _ r hk j v hj
 exact⟨u,by rw [Qa0,←hu];congr 1;rw [Q9];omega,hD⟩
theorem Qa7.mono {I I':Nat→Prop}{w w':World}(hI:∀k,I k→I' k∧w'.heap[k]? = w.heap[k]?){l:List Value}{rs:List (List V)}(h:Qa7 I w z l rs):Qa7 I' w' z l rs:=
 ⟨h.1,h.2.1,h.2.2.1,fun i r hi j v hj=>let ⟨u,hu,hD⟩:=h.2.2.2 i r hi j v hj;⟨u,hu,hD.mono hI⟩⟩
theorem QR.flat {I:Nat→Prop}{w:World}{B:Blk}{rs:List (List V)}(hz0:0<z)(h:QR I w B z rs):B.z=z∧rs.length≤B.cap∧∃cs E l,w.heap[B.b]? = some (.cells cs E (0,0))∧B.off+B.cap*z≤cs.size∧Qa7 I w z l rs∧
  ∀(j:Nat) v,l[j]? = some v→cs[B.off+j]? = some v:=by
 obtain⟨h1,h2,h3,cs,E,h4,h5,h6⟩:=h
 have hle:rs.length*z≤B.cap*z:=Qao z h2
 have hl:∀(j:Nat),j<rs.length*z→((cs.toList.drop B.off).take (rs.length*z))[j]? = cs[B.off+j]? := fun j hj=>by rw [Qau,if_pos hj,Qa0];simp
 have hlen:((cs.toList.drop B.off).take (rs.length*z)).length=rs.length*z:=by simp;omega
 refine⟨h1,h2,cs,E,(cs.toList.drop B.off).take (rs.length*z),h4,h5,⟨hlen,h3,fun u hu=>?_,fun i r hi j v hj=>?_⟩,fun j v hj=>?_⟩
 ·obtain⟨k,hk⟩:=Qeb.1 hu
  have hkl:=(Qx.1 hk).1
  rw [hlen]at hkl
  rw [hl k hkl]at hk
  have hi:k / z<rs.length:=(Nat.div_lt_iff_lt_mul hz0).2 hkl
  have hrow:=h3 rs[k / z] (Qb6 _)
  have hjz:k % z<(rs[k / z]).length:=by rw [hrow.1];exact Nat.mod_lt _ hz0
  obtain⟨x,hx,hD⟩:=h6 (k / z) _ (QK hi) (k % z) _ (QK hjz)
  rw [show k / z*z+k % z=k by rw [Nat.mul_comm];exact Nat.div_add_mod k z,hk]at hx
  cases hx
  exact((Rep.dat (φ:=fun _=>none) hD).oneCell (hrow.2 _ (Qb6 _))).2
 ·have hil:=(Qx.1 hi).1
  have hjz:j<z:=by have:=(Qx.1 hj).1;rwa [(h3 r (QP hi)).1]at this
  have:(i+1)*z≤rs.length*z:=Qao z hil
  rw [Q9]at this
  rw [hl _ (by omega)]
  exact h6 i r hi j v hj
 have hjl:=(Qx.1 hj).1
 rw [hlen]at hjl
 rw [←hl j hjl];exact hj
theorem Qmo {S:Nat→Prop}{φ:Nat→Option Blk}{w w':World}{vals:Array Value}{args:List V}{rs us rs':List (List V)}{B':Blk}{l:List Value}{cur':Array Value}{E':TypeId}(hi:Ins S φ w vals args [(605,.arr z rs),(606,.arr z us)])
  (ho:w'.os=w.os) (ht:w'.tape=w.tape) (hu:w'.output=w.output) (hs:w.heap.size≤w'.heap.size) (hm:B'.more=[]) (hBz:B'.z=z) (hlt:B'.b<w'.heap.size) (hk:∀k,k<w.heap.size→k≠B'.b→w'.heap[k]? = w.heap[k]?)
  (hold:B'.b<w.heap.size→∃B,φ 605=some B∧B.has B'.b) (hl:Qa7 S w z l rs') (hg:w'.heap[B'.b]? = some (.cells cur' E' (0,0))) (hsz:B'.off+B'.cap*z≤cur'.size) (hcap:rs'.length≤B'.cap)
  (hc:∀(j:Nat) v,l[j]? = some v→cur'[B'.off+j]? = some v):
  Outs S φ w (fun o=>if o=605 then some B' else none) w' (.slice (some ⟨B'.b,B'.off,none⟩) rs'.length B'.cap) (.own 605 rs'.length) [(605,.arr z rs')]:=by
 have hB:∀k,B'.has k↔k=B'.b:=fun k=>by simp [Blk.has,hm]
 have hφ:∀o B,(if o=605 then some B' else none)=some B→o=605∧B=B':=fun o B h=>by
  split at h
  ·rename_i e;cases h;exact⟨e,rfl⟩
  cases h
 have hS:∀k,S k→k<w.heap.size∧k≠B'.b:=fun k hk'=>⟨hi.lt k hk',fun e=>by
  obtain⟨B,h1,h2⟩:=hold (e▸hi.lt k hk')
  exact((hi.dom _ B h1).2.1 _ h2).2 (e▸hk')⟩
 have hA:∀k,S k→Aft S (fun o=>if o=605 then some B' else none) w w' k∧w'.heap[k]? = w.heap[k]? := fun k hk'=>by
  obtain⟨h1,h2⟩:=hS k hk'
  refine⟨⟨Qb8 h1 hs,fun _=>hk',fun o B h e=>?_⟩,hk k h1 h2⟩
  obtain⟨_,rfl⟩:=hφ o B h
  exact h2 ((hB k).1 e)
 refine⟨ho,ht,hu,hs,fun k h1 h2=>hk k h1 fun e=>?_,fun o o' B1 B2 k h1 h2 _ _=>?_,fun o B h=>?_,fun o B k h h2=>?_,fun o B k h h2 h3=>?_,⟨fun o B h1 h=>?_,fun o ob B h1 h2 h3=>?_⟩,.own 605 _ B' (by simp) hcap,fun o ob h=>?_⟩
 ·obtain⟨B,h3,h4⟩:=hold (e▸h1)
  exact h2 _ B h3 (e▸h4)
 ·rw [(hφ o B1 h1).1,(hφ o' B2 h2).1]
 ·rw [(hφ o B h).1];exact⟨_,Ql _ _ _⟩
 ·obtain⟨_,rfl⟩:=hφ o B h
  rw [(hB k).1 h2]
  exact⟨hlt,fun h3=>let ⟨B,h4,h5⟩:=hold h3;⟨_,B,h4,h5⟩⟩
 ·have:=(hφ o B h).1;omega
 ·have:=(hφ o B h).1;omega
 ·by_cases e:605=o
  ·omega
  rw [Qk _ _ e]at h2;cases h2
 by_cases e:605=o
 ·subst e
  rw [Ql]at h;cases h
  refine .inl ⟨B',by simp,hBz,hcap,hl.2.1,cur',E',hg,hsz,fun i r hi j v hj=>?_⟩
  obtain⟨u,hu,hD⟩:=hl.2.2.2 i r hi j v hj
  exact⟨u,hc _ u hu,hD.mono hA⟩
 rw [Qk _ _ e]at h;cases h
theorem Qkz (L:Qh6 P ρ n1 n2 E z by_ zv)(rs:List (List V))(u:List V)(i:Int)(h0:0≤i)(hi:i.toNat≤rs.length)(hn:rs.length+1≤4294967296):
  Qh P (ρ.f 22) [.own 605 rs.length,.i .i64 i,.own 606 1] [(605,.arr z rs),(606,.arr z [u])] (Qp (.own 605 (rs.take i.toNat++u::rs.drop i.toNat).length) [(605,.arr z (rs.take i.toNat++u::rs.drop i.toNat))]):=by
 intro S φ w vals hin _
 obtain⟨m,rfl⟩:∃m:Nat,i=m:=⟨i.toNat,by omega⟩
 rw [Int.toNat_natCast]at hi ⊢
 have hs:=hin.size
 obtain⟨v0,v1,v2,hv⟩:∃v0 v1 v2,vals=#[v0,v1,v2]:=by
  obtain⟨l⟩:=vals
  match l,hs with
  | [x,y,z],_=>exact⟨x,y,z,rfl⟩
 subst hv
 have a0:=hin.args 0 v0 _ rfl rfl
 have a1:=(hin.args 1 v1 _ rfl rfl).i_inv
 have a2:=hin.args 2 v2 _ rfl rfl
 subst a1
 have hlen:(rs.take m++u::rs.drop m).length=rs.length+1:=by simp;omega
 have happ:rs.take m++u::rs.drop m=rs.take m++[u]++rs.drop m:=by simp
 obtain⟨i0,hi0,hz0,hzs,hzb⟩:=info_parts L.iE
 have hsm:=L.small
 have hbig:(rs.length+1)*by_≤140737488355328:=by
  have:(rs.length+1)*by_≤4294967296*32768:=Nat.mul_le_mul hn hsm
  omega
 rcases a2.own_inv with⟨_,h⟩|⟨B2,hB2,hc2,rfl⟩
 ·omega
 have hob2:QR S w B2 z [u]:=by
  rcases hin.heap 606 (.arr z [u]) (by rw [Qk _ _ (by omega)];exact Ql _ _ _)with⟨B',hB',hr⟩|⟨hn',_⟩
  ·rw [hB2]at hB';cases hB';exact hr
  rw [hB2]at hn';cases hn'
 obtain⟨_,_,vcur,Ev,vs,hvg,_,hvr,hvc⟩:=QR.flat L.z0 hob2
 have hvl:vs.length=z:=by have:=hvr.1;simpa using this
 have hvs:∀(j:Nat) v,vs[j]? = some v→w.cell? ((⟨B2.b,B2.off,none⟩:Addr).add j)=some v:=fun j v hj=>by
  rw [Addr.add_lit]
  show(match w.heap[B2.b]? with | some (.cells c _ _)=>c[B2.off+j]? | _=>none)=some v
  simp only [hvg,hvc j v hj]
 have fin:∀{B':Blk} {w':World} {l:List Value} {cur':Array Value} {E':TypeId},w'.os=w.os→w'.tape=w.tape→w'.output=w.output→w.heap.size≤w'.heap.size→B'.more=[]→B'.z=z→B'.b<w'.heap.size→(∀k,k<w.heap.size→k≠B'.b→w'.heap[k]? = w.heap[k]?)→
   (B'.b<w.heap.size→∃B,φ 605=some B∧B.has B'.b)→Qa7 S w z l (rs.take m++u::rs.drop m)→w'.heap[B'.b]? = some (.cells cur' E' (0,0))→B'.off+B'.cap*z≤cur'.size→rs.length+1≤B'.cap→(∀(j:Nat) v,l[j]? = some v→cur'[B'.off+j]? = some v)→
   ∃x v hs' φ',Ending.returned (.slice (some ⟨B'.b,B'.off,none⟩) (rs.length+1) B'.cap)=Ending.returned x∧Qp (.own 605 (rs.take m++u::rs.drop m).length) [(605,.arr z (rs.take m++u::rs.drop m))] v hs'∧Outs S φ w φ' w' x v hs':=by
  intro B' w' l cur' E' g1 g2 g3 g4 g5 g6 g7 g8 g9 g10 g11 g12 g13 g14
  have:=Qmo (rs':=rs.take m++u::rs.drop m) hin g1 g2 g3 g4 g5 g6 g7 g8 g9 g10 g11 g12 (by rw [hlen];exact g13) g14
  exact⟨_,_,_,_,rfl,⟨rfl,fun c ob h=>h⟩,by rw [hlen]at this ⊢;exact this⟩
 have mid:∀{l:List Value},Qa7 S w z l rs→Qa7 S w z (l.take (m*z)++vs++l.drop (m*z)) (rs.take m++u::rs.drop m):=fun h=>by
  rw [happ];exact((h.take hi).append hvr).append (h.drop hi)
 rcases a0.own_inv with⟨rfl,h0⟩|⟨B,hB,hcap,rfl⟩
 ·
  have:rs=[]:=List.eq_nil_of_length_eq_zero h0
  subst this
  have hm0:m=0:=by simpa using hi
  subst hm0
  have hrun:=fun ty=>run_append_nil (P:=P) w (ρ.t 24) ty E i0 zv L.t24 hi0 hz0 ⟨B2.b,B2.off,none⟩ 1 B2.cap vs (by rw [hvl,hzs,QdO]) hvs (by omega) (by omega) (by rw [hzb];omega)
  refine(Qjv L none (some ⟨B2.b,B2.off,none⟩) 0 0 B2.cap w _ _ hrun).mono ?_
  rintro e w' ⟨rfl,rfl⟩
  have hge:=grownCap_ge w 1 0 E
  refine fin (B':=⟨w.heap.size,grownCap w 1 0 E,z,[],0⟩) (l:=vs) rfl rfl rfl (by simp) rfl rfl (by simp) (fun k hk _=>Below.heap_alloc w.drew _ k hk) (fun h=>by simp at h) (by simpa using hvr) (heap_alloc_new w.drew _) ?_ hge (fun j v hj=>?_)
  ·simp only [Array.size_append,Qg3,hvl,size_zeroCells,L.zc,Qcp]
   have:z+(grownCap w 1 0 E-1)*z=grownCap w 1 0 E*z:=by
    have h1:grownCap w 1 0 E=1+(grownCap w 1 0 E-1):=by omega
    calc z+(grownCap w 1 0 E-1)*z=(1+(grownCap w 1 0 E-1))*z:=by rw [Q9,QdO]
     _=_:=by rw [←h1]
   omega
  have:=(Qx.1 hj).1
  rw [Qcp,Qjk (by simpa using this)];simpa using hj
 have hob:QR S w B z rs:=by
  rcases hin.heap 605 _ (Ql _ _ _)with⟨B',hB',hr⟩|⟨hn',_⟩
  ·rw [hB]at hB';cases hB';exact hr
  rw [hB]at hn';cases hn'
 obtain⟨hBz,_,cur,Eb,cs,hg,hfit,hr,hc⟩:=QR.flat L.z0 hob
 have hlt:B.b<w.heap.size:=((hin.dom _ _ hB).2.1 _ B.self).1
 have hne:B2.b≠B.b:=fun e=>by
  have:=hin.inj _ _ _ _ B.b hB hB2 B.self (e▸B2.self)
  omega
 have hcells:∀(j:Nat) v,cs[j]? = some v→w.cell? ((⟨B.b,B.off,none⟩:Addr).add j)=some v:=fun j v hj=>by
  rw [Addr.add_lit]
  show(match w.heap[B.b]? with | some (.cells c _ _)=>c[B.off+j]? | _=>none)=some v
  simp only [hg,hc j v hj]
 let B':Blk:=⟨B.b,B.cap,z,[],B.off⟩
 have hold:∀k,k=B.b→∃B,φ 605=some B∧B.has k:=fun k e=>⟨B,hB,e▸B.self⟩
 by_cases hend:m=rs.length
 ·subst hend
  by_cases hroom:rs.length+1≤B.cap
  ·have hfit':B.off+rs.length*i0.size+vs.length≤cur.size:=by
    rw [hzs,hvl]
    have:(rs.length+1)*z≤B.cap*z:=Qao z hroom
    rw [Q9]at this;omega
   have hrun:=fun ty=>Qf8 (P:=P) (T:=ρ.t 24) (ty:=ty) L.t24 hi0 B.b B.off rs.length B.cap cur hg ⟨B2.b,B2.off,none⟩ 1 B2.cap vs (by rw [hvl,hzs,QdO]) hvs hvr.2.2.1 hroom hfit'
   refine(Qjv L (some ⟨B.b,B.off,none⟩) (some ⟨B2.b,B2.off,none⟩) rs.length B.cap B2.cap w _ _ hrun).mono ?_
   rintro e w' ⟨rfl,rfl⟩
   have hl1:B.off+rs.length*z+vs.length≤cur.toList.length:=by rw [←hzs];simpa using hfit'
   refine fin (B':=B') (l:=cs.take (rs.length*z)++vs++cs.drop (rs.length*z)) rfl rfl rfl (by simp) rfl rfl (by simpa using hlt) (fun k _ hk=>setRow_other w B.b k _ hk) (fun _=>hold _ rfl) (mid hr) (setRow_heap w B.b cur _ Eb _ hg) ?_ hroom (fun j v hj=>?_)
   ·rw [hzs,Qg3,QcH _ _ _ hl1];simpa using hfit
   rw [hzs,Qco,QeW _ _ _ hl1]
   have h1:cs.drop (rs.length*z)=[]:=List.drop_eq_nil_of_le (by rw [hr.1];exact QaO _)
   rw [h1,List.append_nil,Qf2 (by rw [hr.1];exact QaO _)]at hj
   have hBo:B'.off=B.off:=rfl
   by_cases hj1:j<cs.length
   ·rw [Qat hj1]at hj
    rw [if_pos (by rw [hr.1]at hj1;omega)]
    simpa using hc j v hj
   rw [Qax (by omega)]at hj
   have:=(Qx.1 hj).1
   rw [hr.1]at hj hj1 this
   rw [if_neg (by omega),if_pos (by omega),←hj];congr 1;omega
  have hrun:=fun ty=>run_append_grow (P:=P) w (ρ.t 24) ty E i0 zv L.t24 hi0 hz0 ⟨B.b,B.off,none⟩ rs.length B.cap cs (by rw [hzs];exact hr.1) hcells ⟨B2.b,B2.off,none⟩ 1 B2.cap vs (by rw [hvl,hzs,QdO]) hvs (by omega) (by omega) (by rw [hzb];exact growslice_fits (by omega) hbig)
  refine(Qjv L (some ⟨B.b,B.off,none⟩) (some ⟨B2.b,B2.off,none⟩) rs.length B.cap B2.cap w _ _ hrun).mono ?_
  rintro e w' ⟨rfl,rfl⟩
  have hge:=grownCap_ge w (rs.length+1) B.cap E
  refine fin (B':=⟨w.heap.size,grownCap w (rs.length+1) B.cap E,z,[],0⟩) (l:=cs.take (rs.length*z)++vs++cs.drop (rs.length*z)) rfl rfl rfl (by simp) rfl rfl (by simp) (fun k hk _=>Below.heap_alloc w.drew _ k hk) (fun h=>by simp at h) (mid hr) (heap_alloc_new w.drew _) ?_ hge (fun j v hj=>?_)
  ·simp only [Array.size_append,Qg3,hvl,hr.1,size_zeroCells,L.zc,Qcp]
   have:rs.length*z+z+(grownCap w (rs.length+1) B.cap E-(rs.length+1))*z=grownCap w (rs.length+1) B.cap E*z:=by
    calc rs.length*z+z+(grownCap w (rs.length+1) B.cap E-(rs.length+1))*z=(rs.length+1+(grownCap w (rs.length+1) B.cap E-(rs.length+1)))*z:=by rw [Q9,Q9,QdO]
     _=_:=by congr 1;omega
   omega
  have h1:cs.drop (rs.length*z)=[]:=List.drop_eq_nil_of_le (by rw [hr.1];exact QaO _)
  rw [h1,List.append_nil,Qf2 (by rw [hr.1];exact QaO _)]at hj
  have hjl:=(Qx.1 hj).1
  rw [Qcp,Qjk (by simpa using hjl),List.append_toArray,Qco];exact hj
 by_cases hroom:rs.length+1≤B.cap
 ·refine(QlQ L B.b B.off rs.length B.cap m B2.b B2.off B2.cap cur vcur Eb Ev cs vs w (by omega) hroom hn hg hfit hr.1 hc hr.2.2.1 hvl hvg hvc hne hvr.2.2.1).mono ?_
  rintro e w' ⟨rfl,g1,g2,g3,g4,g5,cur',g6,g7,g8⟩
  exact fin (B':=B') g1 g2 g3 (by omega) rfl rfl (by rw [g4];exact hlt) (fun k _ hk=>g5 k hk) (fun _=>hold _ rfl) (mid hr) g6 (by rw [g7];exact hfit) hroom g8
 refine(Qmn L B.b B.off rs.length B.cap m B2.b B2.off B2.cap cur vcur Eb Ev cs vs w (by omega) hcap (by omega) hn hg hr.1 hc hr.2.2.1 hvl hvg hvc hvr.2.2.1).mono ?_
 rintro e w' ⟨G,hG,rfl,g1,g2,g3,g4,g5,cur',g6,g7,g8⟩
 exact fin (B':=⟨w.heap.size,G,z,[],0⟩) g1 g2 g3 (by omega) rfl rfl (by show w.heap.size<_;omega) (fun k hk _=>g5 k hk) (fun h=>absurd h (Nat.lt_irrefl _)) (mid hr) g6 (by rw [g7,Qcp];exact QaO _) hG (fun j v hj=>by rw [Qcp];exact g8 j v hj)
def QfI (z:Nat):Nat→List V→List (List V)
 | 0,_=>[]
 | n+1,l=>l.take z::QfI z n (l.drop z)
theorem Qi8 {z:Nat}:∀{n:Nat} {l:List V} {i:Nat} {r:List V},(QfI z n l)[i]? = some r→i<n∧r=(l.drop (i*z)).take z:=by
 intro n
 induction n with
 | zero=>intro l i r h;simp [QfI]at h
 | succ n ih=>
  intro l i r h
  rw [QfI]at h
  cases i with
  | zero=>simp at h;subst h;exact⟨by omega,by simp⟩
  | succ i=>
   simp at h
   obtain⟨h1,h2⟩:=ih h
   exact⟨by omega,by rw [h2,List.drop_drop,Q9,QdO,Nat.add_comm]⟩
theorem Qlq {z:Nat}:∀(n:Nat) (l:List V),(QfI z n l).length=n:=by
 intro n
 induction n with
 | zero=>intro l;rfl
 | succ n ih=>intro l;rw [QfI,Qd9,ih]
section
variable {C:Ctx}{σ:St}{o:Oper}
theorem Stp.sliceVar {T d b n:Nat}{x:Operand}{cs:List V}{rows:List (List V)}(ho:o.op=.slice T x none none none)(hd:o.dst=some d)(hn:Nat.ble (d+1) C.n=true)(hx:σ.opd x=some (.loc b 0 0))(hb:look σ.hp b=some (.var cs))(hp:Nat.ble 605 b=false)
  (hT:Qfj P T=some (n,z)) (h0:Nat.ble 1 n=true) (hl:Nat.beq cs.length (n*z)=true) (h1:cs.all V.one=true) (h2:cs.all V.plain=true) (hr:QfI z n cs=rows):Stp P C o σ ((σ.kill b).put d (.sl z rows)):=by
 refine Stp.val fun φ a w hrr=>?_
 subst hr
 obtain⟨B,hB,he⟩:=(hrr.opd hx).loc_inv
 obtain⟨xs,E,e1,e2,e0,e3⟩:=hrr.block hB hb
 obtain⟨e,hu,i,hi,hiz⟩:=QhQ hT
 have hl':=QQ hl
 have h0':=Qaj h0
 rw [QG]at h1 h2
 have hev:a.eval x=.pointer (some ⟨B.b,0,none⟩):=by rw [he,e0];simp
 refine⟨.slice (some ⟨B.b,0,none⟩) n n,w,del φ b,?_,?_⟩
 ·have hn0:n≠0:=by omega
  simp [execOp,ho,hev,Instr.sliceAt,Instr.sureAddr,run_underlying hu,Instr.sliceBounds,sizeOf,typeInfo,hi,Addr.add_lit]
 rw [hd]
 refine(hrr.kill b).put (QL hn) (.dat ?_)
 have hIb:Imm C (del φ b) w B.b:=by
  refine⟨(hrr.lt b B _ hB B.self).1,fun hlt=>?_,fun o B' hB' e=>?_⟩
  ·have hb':b<605:=Ql2 hp
   have:=hrr.new b B _ hB B.self hb';omega
  obtain⟨h4,h5⟩:=Qa9 hB'
  exact h4 (hrr.inj o b B' B _ h5 hB e B.self)
 refine .sl B.b 0 n n z _ (fun j=>xs.getD j undef) hIb (Qlq n cs).symm (QaO _) (fun r hr=>?_) (fun j hj=>?_) fun i r hi j v hj=>?_
 ·obtain⟨i,hi⟩:=Qeb.1 hr
  obtain⟨hin,rfl⟩:=Qi8 hi
  have:(i+1)*z≤n*z:=Qao z hin
  rw [Q9]at this
  exact⟨by simp;omega,fun v hv=>h1 v (QeM (QcW hv))⟩
 ·have:j<xs.size:=by omega
  simp [World.cell?,e1,Array.getD,this]
 obtain⟨hin,rfl⟩:=Qi8 hi
 rw [Qau]at hj
 split at hj
 ·rw [Qa0]at hj
  have hlt:i*z+j<xs.size:=by rw [e2];exact(Qx.1 hj).1
  have hrep:=e3 _ xs[i*z+j] v (QbD hlt) hj
  have:xs.getD (i*z+j) undef=xs[i*z+j]:=by simp [Array.getD,hlt]
  rw [this]
  exact(hrep.plain (h2 v (QP hj))).mono fun k hk=>⟨hk.of_del,rfl⟩
 cases hj
end
section
variable {P:Program}{C:Ctx}{σ:St}{o:Oper}
theorem Stp.appSB {T U d e e' z z' by_ by' b n m:Nat}{x y:Operand}{rs us rs':List (List V)}{zs:List V}(ho:o.op=.call { callee:=.builtin .append,args:=#[x,y],argTypes:=#[T,U] })
  (hd:o.dst=some d) (hn:Nat.ble (d+1) C.n=true) (hx:σ.opd x=some (.own b n)) (hb:look σ.hp b=some (.arr z rs)) (hb1:Nat.ble 607 b=false) (hnl:rs.length=n)
  (hT:QS P T=some (e,z,by_)) (hU:QS P U=some (e',z',by')) (hz:QZ P e=some zs) (hzl:zs.length=z) (hz0:z≠0) (hb0:1≤by_) (hsm:decide ((n+us.length)*by_≤140737488355328)=true)
  (hy:σ.opd y=some (.sl z us)) (he:rs++us=rs') (hm:n+us.length=m):Stp P C o σ (σ.app b z d m rs'):=
 Stp.appendB ho hd hn hx hb hb1 hnl hT hU hz hzl hz0 (Qbe (Nat.le_mul_of_pos_right _ hb0) (Qa3 hsm)) (Qa3 hsm) (fun φ a w hr=>(hr.opd hy).source_sl) he hm
theorem QmN {α β:Type}{us:List α}{y:List β}{n b L:Nat}(h:decide ((n+y.length)*b≤L)=true)(e:us.length=y.length):decide ((n+us.length)*b≤L)=true:=by rw [e];exact h
end
end Go.Vm
