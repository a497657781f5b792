/- ItemsBack, as it is given: of any case, any call and any row of bytes it answers true, with no condition but what its row asks of all calls. -/
import Derived.Test.YtbcmaoldnhphlaaO4P1
import Derived.Test.YtbcmaoldnhphlaaO4T1
import Derived.Test.YtbcmaoldnhphlaaO4V3
import Derived.Test.YtbcmaoldnhphlaaRows
import Derived.WalkKit
import Derived.ProofKit
import Derived.OpenShut
set_option linter.unusedVariables false
set_option linter.unusedSimpArgs false
set_option linter.unusedSectionVars false
set_option linter.deprecated false
noncomputable section
namespace Go.Proofs.Ytbcmaoldnhphlaa
open Go Go.RowKit Go.Vm Go.ChangeShapes Go.WideShapes Go.ChangeAt
theorem QbU {H:Type}{enc:TypeId×Value→H}{w:World}(N:Nat):Rd enc Try.prog w N 3 Qp (fun x _=>(okI .i64) x):=(Rd.int (by kernel_rfl)).map id (fun _=>rfl) fun _ _ h=>Qm3 h
def QhC (x:(Int×Int)):Prop:=(okI .i64) x.1∧(okI .i64) x.2
theorem Qn8 {H:Type}{enc:TypeId×Value→H}{w:World}(N:Nat):Rd enc Try.prog w N 64 QH (fun x _=>QhC x):=by
 have h0:=(Rd.array (e:=3) (n:=2) (tot:=2) (fs:=[(3,0),(3,1)]) (N:=N) (t:=64) (P:=Try.prog) (w:=w) (enc:=enc) (by kernel_rfl) (RdF.cons 3 0 1 (by kernel_rfl) (QbU N) (RdF.cons 3 1 1 (by kernel_rfl) (QbU N) RdF.nil)))
 exact(h0.map (fun x=>⟨x.1,x.2.1⟩) (fun _=>rfl) (fun x d h=>by obtain⟨_,rfl,h⟩:=h;obtain⟨_,_,rfl,a0,h⟩:=h;obtain⟨_,_,rfl,a1,h⟩:=h;exact⟨a0,a1⟩)).mono (Qfj N)
theorem Qpw {H:Type}{enc:TypeId×Value→H}{w:World}(N:Nat):Rd enc Try.prog w N 66 QS (fun x _=>(okL QhC) x):=(Rd.slice (e:=64) (z:=2) (by kernel_rfl) (by kernel_rfl) (by decide) (fun x=>Qd9 rfl) (Qn8 N)).map id (fun _=>rfl) fun _ _ h=>QiP h
theorem Qpx {H:Type}{enc:TypeId×Value→H}{w:World}(N:Nat):Rd enc Try.prog w N 41 Qkz (fun x _=>(okL (okL QhC)) x):=(Rd.slice (e:=66) (z:=1) (by kernel_rfl) (by kernel_rfl) (by decide) (fun x=>Qd9 rfl) (Qpw N)).map id (fun _=>rfl) fun _ _ h=>QiP h
theorem QmI {H:Type}{enc:TypeId×Value→H}{w:World}(N:Nat):Rd enc Try.prog w N 23 Qm5 (fun x _=>(okL (okI .i64)) x):=(Rd.slice (e:=3) (z:=1) (by kernel_rfl) (by kernel_rfl) (by decide) (fun x=>Qd9 rfl) (QbU N)).map id (fun _=>rfl) fun _ _ h=>QiP h
def Qgu (x:QX):Prop:=(okI .i64) x.Task∧(okL (okI .i64)) x.Vars∧(okL (okI .i64)) x.Ins∧(okL (okI .i64)) x.Outs
theorem Qn9 {H:Type}{enc:TypeId×Value→H}{w:World}(N:Nat):Rd enc Try.prog w N 25 Qae (fun x _=>Qgu x):=by
 have h0:=(Rd.struct (fs:=[(3,0),(23,1),(23,2),(23,3)]) (tot:=4) (N:=N) (t:=25) (P:=Try.prog) (w:=w) (enc:=enc) (by kernel_rfl) (RdF.cons 3 0 1 (by kernel_rfl) (QbU N) (RdF.cons 23 1 1 (by kernel_rfl) (QmI N) (RdF.cons 23 2 1 (by kernel_rfl) (QmI N) (RdF.cons 23 3 1 (by kernel_rfl) (QmI N) RdF.nil)))))
 exact(h0.map (fun x=>⟨x.1,x.2.1,x.2.2.1,x.2.2.2.1⟩) (fun _=>rfl) (fun x d h=>by obtain⟨_,rfl,h⟩:=h;obtain⟨_,_,rfl,a0,h⟩:=h;obtain⟨_,_,rfl,a1,h⟩:=h;obtain⟨_,_,rfl,a2,h⟩:=h;obtain⟨_,_,rfl,a3,h⟩:=h;exact⟨a0,a1,a2,a3⟩)).mono (Qfj N)
def QkE (x:Qab):Prop:=(okI .i64) x.Most∧(okI .i64) x.Enough∧(okI .i64) x.Open∧(okI .i64) x.Done∧(okI .i64) x.Failed
theorem Qoa {H:Type}{enc:TypeId×Value→H}{w:World}(N:Nat):Rd enc Try.prog w N 27 Qat (fun x _=>QkE x):=by
 have h0:=(Rd.struct (fs:=[(3,0),(3,1),(3,2),(3,3),(3,4)]) (tot:=5) (N:=N) (t:=27) (P:=Try.prog) (w:=w) (enc:=enc) (by kernel_rfl) (RdF.cons 3 0 1 (by kernel_rfl) (QbU N) (RdF.cons 3 1 1 (by kernel_rfl) (QbU N) (RdF.cons 3 2 1 (by kernel_rfl) (QbU N) (RdF.cons 3 3 1 (by kernel_rfl) (QbU N) (RdF.cons 3 4 1 (by kernel_rfl) (QbU N) RdF.nil))))))
 exact(h0.map (fun x=>⟨x.1,x.2.1,x.2.2.1,x.2.2.2.1,x.2.2.2.2.1⟩) (fun _=>rfl) (fun x d h=>by obtain⟨_,rfl,h⟩:=h;obtain⟨_,_,rfl,a0,h⟩:=h;obtain⟨_,_,rfl,a1,h⟩:=h;obtain⟨_,_,rfl,a2,h⟩:=h;obtain⟨_,_,rfl,a3,h⟩:=h;obtain⟨_,_,rfl,a4,h⟩:=h;exact⟨a0,a1,a2,a3,a4⟩)).mono (Qfj N)
def Qfe (x:Qj):Prop:=(okI .i64) x.Id∧Qgu x.Mode∧QkE x.Batch∧(okI .i64) x.Until
theorem Qpy {H:Type}{enc:TypeId×Value→H}{w:World}(N:Nat):Rd enc Try.prog w N 29 Qd (fun x _=>Qfe x):=by
 have h0:=(Rd.struct (fs:=[(3,0),(25,1),(27,5),(3,10)]) (tot:=11) (N:=N) (t:=29) (P:=Try.prog) (w:=w) (enc:=enc) (by kernel_rfl) (RdF.cons 3 0 1 (by kernel_rfl) (QbU N) (RdF.cons 25 1 4 (by kernel_rfl) (Qn9 N) (RdF.cons 27 5 5 (by kernel_rfl) (Qoa N) (RdF.cons 3 10 1 (by kernel_rfl) (QbU N) RdF.nil)))))
 exact(h0.map (fun x=>⟨x.1,x.2.1,x.2.2.1,x.2.2.2.1⟩) (fun _=>rfl) (fun x d h=>by obtain⟨_,rfl,h⟩:=h;obtain⟨_,_,rfl,a0,h⟩:=h;obtain⟨_,_,rfl,a1,h⟩:=h;obtain⟨_,_,rfl,a2,h⟩:=h;obtain⟨_,_,rfl,a3,h⟩:=h;exact⟨a0,a1,a2,a3⟩)).mono (Qfj N)
theorem Qpz {H:Type}{enc:TypeId×Value→H}{w:World}(N:Nat):Rd enc Try.prog w N 22 QjR (fun x _=>(okL Qfe) x):=(Rd.slice (e:=29) (z:=11) (by kernel_rfl) (by kernel_rfl) (by decide) (fun x=>Qd9 rfl) (Qpy N)).map id (fun _=>rfl) fun _ _ h=>QiP h
def Qgv (x:QN):Prop:=(okL (okL QhC)) x.M∧(okL Qfe) x.Items∧(okI .i64) x.Next∧(okI .i64) x.Now
theorem QpK {H:Type}{enc:TypeId×Value→H}{w:World}(N:Nat):Rd enc Try.prog w N 43 QC (fun x _=>Qgv x):=by
 have h0:=(Rd.struct (fs:=[(41,0),(22,1),(3,2),(3,3)]) (tot:=4) (N:=N) (t:=43) (P:=Try.prog) (w:=w) (enc:=enc) (by kernel_rfl) (RdF.cons 41 0 1 (by kernel_rfl) (Qpx N) (RdF.cons 22 1 1 (by kernel_rfl) (Qpz N) (RdF.cons 3 2 1 (by kernel_rfl) (QbU N) (RdF.cons 3 3 1 (by kernel_rfl) (QbU N) RdF.nil)))))
 exact(h0.map (fun x=>⟨x.1,x.2.1,x.2.2.1,x.2.2.2.1⟩) (fun _=>rfl) (fun x d h=>by obtain⟨_,rfl,h⟩:=h;obtain⟨_,_,rfl,a0,h⟩:=h;obtain⟨_,_,rfl,a1,h⟩:=h;obtain⟨_,_,rfl,a2,h⟩:=h;obtain⟨_,_,rfl,a3,h⟩:=h;exact⟨a0,a1,a2,a3⟩)).mono (Qfj N)
def Qgw (x:Q6):Prop:=(okI .i64) x.Do∧(okI .i64) x.Id∧Qgu x.Mode∧(okI .i64) x.Num
theorem QpL {H:Type}{enc:TypeId×Value→H}{w:World}(N:Nat):Rd enc Try.prog w N 45 QA (fun x _=>Qgw x):=by
 have h0:=(Rd.struct (fs:=[(3,0),(3,1),(25,2),(3,6)]) (tot:=7) (N:=N) (t:=45) (P:=Try.prog) (w:=w) (enc:=enc) (by kernel_rfl) (RdF.cons 3 0 1 (by kernel_rfl) (QbU N) (RdF.cons 3 1 1 (by kernel_rfl) (QbU N) (RdF.cons 25 2 4 (by kernel_rfl) (Qn9 N) (RdF.cons 3 6 1 (by kernel_rfl) (QbU N) RdF.nil)))))
 exact(h0.map (fun x=>⟨x.1,x.2.1,x.2.2.1,x.2.2.2.1⟩) (fun _=>rfl) (fun x d h=>by obtain⟨_,rfl,h⟩:=h;obtain⟨_,_,rfl,a0,h⟩:=h;obtain⟨_,_,rfl,a1,h⟩:=h;obtain⟨_,_,rfl,a2,h⟩:=h;obtain⟨_,_,rfl,a3,h⟩:=h;exact⟨a0,a1,a2,a3⟩)).mono (Qfj N)
theorem Qo7 {H:Type}{enc:TypeId×Value→H}{w:World}(N:Nat):Rd enc Try.prog w N 5 Qn (fun x _=>(okI .u8) x):=(Rd.int (by kernel_rfl)).map id (fun _=>rfl) fun _ _ h=>Qm3 h
theorem QpM {H:Type}{enc:TypeId×Value→H}{w:World}(N:Nat):Rd enc Try.prog w N 47 Qlq (fun x _=>(okL (okI .u8)) x):=(Rd.slice (e:=5) (z:=1) (by kernel_rfl) (by kernel_rfl) (by decide) (fun x=>Qd9 rfl) (Qo7 N)).map id (fun _=>rfl) fun _ _ h=>QiP h
def QmJ (x:(List (Int×Int))):Prop:=x.length*16≤reachBytes
theorem Qo8 {H:Type}{enc:TypeId×Value→H}{w:World}(N:Nat):Rd enc Try.prog w N 66 QS (fun x d=>(okL QhC) x∧(Sz Try.prog 66 d→QmJ x)):=(Rd.slice (e:=64) (z:=2) (by kernel_rfl) (by kernel_rfl) (by decide) (fun x=>Qd9 rfl) (Qn8 N)).map id (fun _=>rfl) fun _ _ h=>QnG (t:=66) (e:=64) (b:=16) (by kernel_rfl) (by kernel_rfl) h
def Qob (x:(List (List (Int×Int)))):Prop:=x.length*24≤reachBytes∧∀y∈x,QmJ y
theorem Qo9 {H:Type}{enc:TypeId×Value→H}{w:World}(N:Nat):Rd enc Try.prog w N 41 Qkz (fun x d=>(okL (okL QhC)) x∧(Sz Try.prog 41 d→Qob x)):=(Rd.slice (e:=66) (z:=1) (by kernel_rfl) (by kernel_rfl) (by decide) (fun x=>Qd9 rfl) (Qo8 N)).map id (fun _=>rfl) fun _ _ h=>QoK (t:=41) (e:=66) (b:=24) (by kernel_rfl) (by kernel_rfl) h
def Qj3 (x:(List Int)):Prop:=x.length*8≤reachBytes
theorem QlC {H:Type}{enc:TypeId×Value→H}{w:World}(N:Nat):Rd enc Try.prog w N 23 Qm5 (fun x d=>(okL (okI .i64)) x∧(Sz Try.prog 23 d→Qj3 x)):=(Rd.slice (e:=3) (z:=1) (by kernel_rfl) (by kernel_rfl) (by decide) (fun x=>Qd9 rfl) (QbU N)).map id (fun _=>rfl) fun _ _ h=>QnG (t:=23) (e:=3) (b:=8) (by kernel_rfl) (by kernel_rfl) h
def QkT (x:QX):Prop:=Qj3 x.Vars∧Qj3 x.Ins∧Qj3 x.Outs
theorem Qnh {H:Type}{enc:TypeId×Value→H}{w:World}(N:Nat):Rd enc Try.prog w N 25 Qae (fun x d=>Qgu x∧(Sz Try.prog 25 d→QkT x)):=by
 have h0:=(Rd.struct (fs:=[(3,0),(23,1),(23,2),(23,3)]) (tot:=4) (N:=N) (t:=25) (P:=Try.prog) (w:=w) (enc:=enc) (by kernel_rfl) (RdF.cons 3 0 1 (by kernel_rfl) (QbU N) (RdF.cons 23 1 1 (by kernel_rfl) (QlC N) (RdF.cons 23 2 1 (by kernel_rfl) (QlC N) (RdF.cons 23 3 1 (by kernel_rfl) (QlC N) RdF.nil)))))
 exact(h0.map (fun x=>⟨x.1,x.2.1,x.2.2.1,x.2.2.2.1⟩) (fun _=>rfl) (fun x d h=>by obtain⟨_,rfl,h⟩:=h;obtain⟨_,_,rfl,a0,h⟩:=h;obtain⟨_,_,rfl,a1,h⟩:=h;obtain⟨_,_,rfl,a2,h⟩:=h;obtain⟨_,_,rfl,a3,h⟩:=h;exact⟨⟨a0,a1.1,a2.1,a3.1⟩,fun hz=>⟨a1.2 (Sz.field Try.underlying25 hz (j:=1) rfl rfl),a2.2 (Sz.field Try.underlying25 hz (j:=2) rfl rfl),a3.2 (Sz.field Try.underlying25 hz (j:=3) rfl rfl)⟩⟩)).mono (Qfj N)
def Qoc (x:Qj):Prop:=QkT x.Mode
theorem Qpa {H:Type}{enc:TypeId×Value→H}{w:World}(N:Nat):Rd enc Try.prog w N 29 Qd (fun x d=>Qfe x∧(Sz Try.prog 29 d→Qoc x)):=by
 have h0:=(Rd.struct (fs:=[(3,0),(25,1),(27,5),(3,10)]) (tot:=11) (N:=N) (t:=29) (P:=Try.prog) (w:=w) (enc:=enc) (by kernel_rfl) (RdF.cons 3 0 1 (by kernel_rfl) (QbU N) (RdF.cons 25 1 4 (by kernel_rfl) (Qnh N) (RdF.cons 27 5 5 (by kernel_rfl) (Qoa N) (RdF.cons 3 10 1 (by kernel_rfl) (QbU N) RdF.nil)))))
 exact(h0.map (fun x=>⟨x.1,x.2.1,x.2.2.1,x.2.2.2.1⟩) (fun _=>rfl) (fun x d h=>by obtain⟨_,rfl,h⟩:=h;obtain⟨_,_,rfl,a0,h⟩:=h;obtain⟨_,_,rfl,a1,h⟩:=h;obtain⟨_,_,rfl,a2,h⟩:=h;obtain⟨_,_,rfl,a3,h⟩:=h;exact⟨⟨a0,a1.1,a2,a3⟩,fun hz=>a1.2 (Sz.field Try.underlying29 hz (j:=1) rfl rfl)⟩)).mono (Qfj N)
def Qod (x:(List Qj)):Prop:=x.length*136≤reachBytes∧∀y∈x,Qoc y
theorem Qpb {H:Type}{enc:TypeId×Value→H}{w:World}(N:Nat):Rd enc Try.prog w N 22 QjR (fun x d=>(okL Qfe) x∧(Sz Try.prog 22 d→Qod x)):=(Rd.slice (e:=29) (z:=11) (by kernel_rfl) (by kernel_rfl) (by decide) (fun x=>Qd9 rfl) (Qpa N)).map id (fun _=>rfl) fun _ _ h=>QoK (t:=22) (e:=29) (b:=136) (by kernel_rfl) (by kernel_rfl) h
def QkU (x:QN):Prop:=Qob x.M∧Qod x.Items
theorem Qpc {H:Type}{enc:TypeId×Value→H}{w:World}(N:Nat):Rd enc Try.prog w N 43 QC (fun x d=>Qgv x∧(Sz Try.prog 43 d→QkU x)):=by
 have h0:=(Rd.struct (fs:=[(41,0),(22,1),(3,2),(3,3)]) (tot:=4) (N:=N) (t:=43) (P:=Try.prog) (w:=w) (enc:=enc) (by kernel_rfl) (RdF.cons 41 0 1 (by kernel_rfl) (Qo9 N) (RdF.cons 22 1 1 (by kernel_rfl) (Qpb N) (RdF.cons 3 2 1 (by kernel_rfl) (QbU N) (RdF.cons 3 3 1 (by kernel_rfl) (QbU N) RdF.nil)))))
 exact(h0.map (fun x=>⟨x.1,x.2.1,x.2.2.1,x.2.2.2.1⟩) (fun _=>rfl) (fun x d h=>by obtain⟨_,rfl,h⟩:=h;obtain⟨_,_,rfl,a0,h⟩:=h;obtain⟨_,_,rfl,a1,h⟩:=h;obtain⟨_,_,rfl,a2,h⟩:=h;obtain⟨_,_,rfl,a3,h⟩:=h;exact⟨⟨a0.1,a1.1,a2,a3⟩,fun hz=>⟨a0.2 (Sz.field Try.underlying43 hz (j:=0) rfl rfl),a1.2 (Sz.field Try.underlying43 hz (j:=1) rfl rfl)⟩⟩)).mono (Qfj N)
def QmK (x:Q6):Prop:=QkT x.Mode
theorem Qpd {H:Type}{enc:TypeId×Value→H}{w:World}(N:Nat):Rd enc Try.prog w N 45 QA (fun x d=>Qgw x∧(Sz Try.prog 45 d→QmK x)):=by
 have h0:=(Rd.struct (fs:=[(3,0),(3,1),(25,2),(3,6)]) (tot:=7) (N:=N) (t:=45) (P:=Try.prog) (w:=w) (enc:=enc) (by kernel_rfl) (RdF.cons 3 0 1 (by kernel_rfl) (QbU N) (RdF.cons 3 1 1 (by kernel_rfl) (QbU N) (RdF.cons 25 2 4 (by kernel_rfl) (Qnh N) (RdF.cons 3 6 1 (by kernel_rfl) (QbU N) RdF.nil)))))
 exact(h0.map (fun x=>⟨x.1,x.2.1,x.2.2.1,x.2.2.2.1⟩) (fun _=>rfl) (fun x d h=>by obtain⟨_,rfl,h⟩:=h;obtain⟨_,_,rfl,a0,h⟩:=h;obtain⟨_,_,rfl,a1,h⟩:=h;obtain⟨_,_,rfl,a2,h⟩:=h;obtain⟨_,_,rfl,a3,h⟩:=h;exact⟨⟨a0,a1,a2.1,a3⟩,fun hz=>a2.2 (Sz.field Try.underlying45 hz (j:=2) rfl rfl)⟩)).mono (Qfj N)
def QmL (x:(List Int)):Prop:=x.length*1≤reachBytes
theorem Qpe {H:Type}{enc:TypeId×Value→H}{w:World}(N:Nat):Rd enc Try.prog w N 47 Qlq (fun x d=>(okL (okI .u8)) x∧(Sz Try.prog 47 d→QmL x)):=(Rd.slice (e:=5) (z:=1) (by kernel_rfl) (by kernel_rfl) (by decide) (fun x=>Qd9 rfl) (Qo7 N)).map id (fun _=>rfl) fun _ _ h=>QnG (t:=47) (e:=5) (b:=1) (by kernel_rfl) (by kernel_rfl) h
namespace LawItemsBack
theorem own : ownKnob Try.prog.godebug=none:=by kernel_rfl
theorem Qov : laidOutB Try.prog=true:=by kernel_rfl
theorem Qn5 : ∀t∈Try.f8.params.toList,Try.prog.readableRec t=true∧t<Try.prog.types.size:=by
 have h:(Try.f8.params.toList.all fun t=>Try.prog.readableRec t&&decide (t<Try.prog.types.size))=true:=by kernel_rfl
 intro t ht
 have:=QL.1 h t ht
 rw [Qv,Qei]at this
 exact this
set_option maxRecDepth 100000 in
theorem Qpf (hF:∀(a0:QN) (a1:Q6) (a2:(List Int)),(Qgv a0∧QkU a0)→(Qgw a1∧QmK a1)→((okL (okI .u8)) a2∧QmL a2)→QbX a0 a1 a2=some true)(os:Os)(started:os.Started)(H:Type)(enc:TypeId×Value→H):
  ReturnsInHanded {} Try.checked os 8 .any (Rows.itemsBackSpec.pre6 enc Try.prog Try.f8 Rows.itemsBackRow.domain false) (Rows.itemsBackSpec.post enc Try.prog Try.f8 false true false false):=by
 refine Qlo (C:=Try.checked) own started (by kernel_rfl) Try.func8
  (ChangeSpec.witness6 (enc:=enc) (C:=Try.checked) false ⟨#[],#[.agg #[.slice none 0 0,.slice none 0 0,.int .i64 0,.int .i64 0],.agg #[.int .i64 0,.int .i64 0,.int .i64 0,.slice none 0 0,.slice none 0 0,.slice none 0 0,.int .i64 0],.slice none 0 0],[]⟩ 8 (by kernel_rfl) (by kernel_rfl) (by kernel_rfl) (by kernel_rfl)) ?_
 intro W base args ds gs before hval0 hW hcnd hz _
 have hval:∀(j:Nat) t v,Try.f8.params[j]? = some t→args[j]? = some v→Value.okWide Try.prog W .any base t v:=hval0
 have hW1:=hW
 obtain⟨p,q,hA0,hV,_,_,_⟩:=hW
 obtain⟨rfl,_⟩:=trodVars_none hV
 have hA:DataW.TrodAll enc Try.prog W 0 (fun _=>true) true Try.f8.params.toList args.toList ds p:=hA0
 rw [Try.params8]at hA hval
 obtain⟨v0,vs0,d0,ds0,p0,q0,hargs,rfl,_,h0,r0⟩:=trodAll_cons hA
 obtain⟨v1,vs1,d1,ds1,p1,q1,rfl,rfl,_,h1,r1⟩:=trodAll_cons r0
 obtain⟨v2,vs2,d2,ds2,p2,q2,rfl,rfl,_,h2,r2⟩:=trodAll_cons r1
 obtain⟨rfl,rfl,_⟩:=trodAll_nil r2
 obtain rfl:args=#[v0,v1,v2]:=by cases args;simp_all
 obtain⟨a0,w0',c0⟩:=Rd.open (fun N=>Qpc N) h0
 have w0:=And.intro w0'.1 (w0'.2 (Sz.all hz (j:=0) (by kernel_rfl) rfl))
 obtain⟨_,rfl⟩:=Qln (P:=Try.prog) (t:=43) (fs:=[(41,0),(22,1),(3,2),(3,3)]) (tot:=4) (by kernel_rfl) (hval 0 43 v0 rfl rfl)
 have e0:=c0.argS
 obtain⟨a1,w1',c1⟩:=Rd.open (fun N=>Qpd N) h1
 have w1:=And.intro w1'.1 (w1'.2 (Sz.all hz (j:=1) (by kernel_rfl) rfl))
 obtain⟨_,rfl⟩:=Qln (P:=Try.prog) (t:=45) (fs:=[(3,0),(3,1),(25,2),(3,6)]) (tot:=7) (by kernel_rfl) (hval 1 45 v1 rfl rfl)
 have e1:=c1.argS
 obtain⟨a2,w2',c2⟩:=Rd.open (fun N=>Qpe N) h2
 have w2:=And.intro w2'.1 (w2'.2 (Sz.all hz (j:=2) (by kernel_rfl) rfl))
 obtain⟨_,_,_,rfl⟩:=okWide_slice Try.underlying47 (hval 2 47 v2 rfl rfl)
 have e2:=(Cl.arg1 rfl c2)
 refine(Qh.law (us:=[.agg (QC a0),.agg (QA a1),.sl 1 (a2.map Qn)]) (Qie a0 a1 a2 (hF a0 a1 a2 w0 w1 w2)) (fun g hg=>by rw [show Ql4 Try.prog=none from by kernel_rfl]at hg;cases hg) rfl (fun j x v hx hv=>?_)).mono fun e W2 ⟨he,hb⟩=>?_
 ·match j with
  | 0=>cases hx;cases hv;exact e0
  | 1=>cases hx;cases hv;exact e1
  | 2=>cases hx;cases hv;exact e2
  | j+3=>simp at hx
 subst he
 exact⟨_,rfl,QnF Qov Qn5 hW1 rfl hb rfl Try.underlying4 rfl rfl rfl⟩
theorem proved_of (hF:∀(a0:QN) (a1:Q6) (a2:(List Int)),(Qgv a0∧QkU a0)→(Qgw a1∧QmK a1)→((okL (okI .u8)) a2∧QmL a2)→QbX a0 a1 a2=some true):Rows.ItemsBackSaid:=
 OpenClaim.holds_of_wide 8 Try.f8 rfl rfl rfl rfl rfl rfl rfl ⟨rfl,rfl,rfl,rfl,rfl⟩ rfl rfl rfl rfl rfl (by kernel_rfl) Try.func8 (by kernel_rfl)
  (QbO (by kernel_rfl)) (by unfold Func.isWrapper;first | (rw [if_pos (by decide +kernel)];kernel_rfl) | (rw [if_neg (by decide +kernel)];exact⟨rfl,rfl⟩))
  (fun os started H enc _=>Qpf hF os started H enc)
end LawItemsBack
theorem QlD : reachBytes=140737488351232:=by decide
theorem QlX {o:QX}(h:QkT o):Qlu o:=by
 have e:=QlD
 obtain⟨h1,h2,h3⟩:=h
 unfold Qj3 at h1 h2 h3
 unfold Qlu;omega
theorem Qow {c:QN}(h:QkU c):Qo3 c:=by
 have e:=QlD
 obtain⟨⟨h1,h2⟩,h3,h4⟩:=h
 exact⟨⟨by omega,fun b hb=>by have:=h2 b hb;unfold QmJ at this;omega⟩,fun x hx=>QlX (h4 x hx)⟩
theorem Qox {n:Int}(h:okI .u8 n):Qa1 n:=by
 have h1:(0:Int)≤n:=h.1
 have h2:n≤255:=h.2
 unfold Qa1;omega
theorem Qcn {n:Int}(h:okI .i64 n):QbN n:=by
 have h1:(-9223372036854775808:Int)≤n:=h.1
 have h2:n≤9223372036854775807:=h.2
 exact⟨h1,h2⟩
theorem QhD {α:Type}{p q:α→Prop}(f:∀x,p x→q x){l:List α}(h:okL p l):okRow q l:=⟨h.1,fun x hx=>f x (h.2 x hx)⟩
theorem QlY {o:QX}(h:Qgu o):QhB o:=⟨Qcn h.1,QhD (fun _=>Qcn) h.2.1,QhD (fun _=>Qcn) h.2.2.1,QhD (fun _=>Qcn) h.2.2.2⟩
theorem Qoy {x:Qj}(h:Qfe x):Qlz x:=⟨Qcn h.1,QlY h.2.1,Qcn h.2.2.1.1,Qcn h.2.2.1.2.1,Qcn h.2.2.1.2.2.1,Qcn h.2.2.1.2.2.2.1,Qcn h.2.2.1.2.2.2.2,Qcn h.2.2.2⟩
theorem Qoz {c:QN}(h:Qgv c):QiW c:=⟨Qcn h.2.2.1,Qcn h.2.2.2,QhD (fun _ h=>QhD (fun _ h=>⟨Qcn h.1,Qcn h.2⟩) h) h.1,QhD (fun _=>Qoy) h.2.1⟩
theorem QoA {k:Q6}(h:Qgw k):QlA k:=⟨Qcn h.1,Qcn h.2.1,QlY h.2.2.1,Qcn h.2.2.2⟩
theorem proved : Rows.ItemsBackSaid:=LawItemsBack.proved_of fun a0 a1 a2 h0 h1 h2=>Qng (Qow h0.2) (Qoz h0.1) (QlX h1.2) (QoA h1.1) fun e he=>Qox (h2.1.2 e he)

end Go.Proofs.Ytbcmaoldnhphlaa
