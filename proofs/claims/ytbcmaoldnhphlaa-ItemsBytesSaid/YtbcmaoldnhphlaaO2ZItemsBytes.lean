/- ItemsBytes, as it is given: of any cases and any call it answers true, with no condition but what its row asks of all calls. -/
import Derived.Test.YtbcmaoldnhphlaaO2P1
import Derived.Test.YtbcmaoldnhphlaaO2T1
import Derived.Test.YtbcmaoldnhphlaaO2V3
import Derived.Test.YtbcmaoldnhphlaaRows
import Derived.WalkKit
import Derived.ProofKit
import Derived.OpenShut
set_option linter.unusedVariables false
set_option linter.unusedSimpArgs false
set_option linter.unusedSectionVars false
set_option linter.deprecated false
noncomputable section
namespace Go.Proofs.Ytbcmaoldnhphlaa
open Go Go.RowKit Go.Vm Go.ChangeShapes Go.WideShapes Go.ChangeAt
theorem QbK {H:Type}{enc:TypeId×Value→H}{w:World}(N:Nat):Rd enc Try.prog w N 3 Qq (fun x _=>(okI .i64) x):=(Rd.int (by kernel_rfl)).map id (fun _=>rfl) fun _ _ h=>Qox h
def QhZ (x:(Int×Int)):Prop:=(okI .i64) x.1∧(okI .i64) x.2
theorem Qn3 {H:Type}{enc:TypeId×Value→H}{w:World}(N:Nat):Rd enc Try.prog w N 64 QB (fun x _=>QhZ x):=by
 have h0:=(Rd.array (e:=3) (n:=2) (tot:=2) (fs:=[(3,0),(3,1)]) (N:=N) (t:=64) (P:=Try.prog) (w:=w) (enc:=enc) (by kernel_rfl) (RdF.cons 3 0 1 (by kernel_rfl) (QbK N) (RdF.cons 3 1 1 (by kernel_rfl) (QbK N) RdF.nil)))
 exact(h0.map (fun x=>⟨x.1,x.2.1⟩) (fun _=>rfl) (fun x d h=>by obtain⟨_,rfl,h⟩:=h;obtain⟨_,_,rfl,a0,h⟩:=h;obtain⟨_,_,rfl,a1,h⟩:=h;exact⟨a0,a1⟩)).mono (Qfz N)
theorem Qo7 {H:Type}{enc:TypeId×Value→H}{w:World}(N:Nat):Rd enc Try.prog w N 66 QG (fun x _=>(okL QhZ) x):=(Rd.slice (e:=64) (z:=2) (by kernel_rfl) (by kernel_rfl) (by decide) (fun x=>QfL rfl) (Qn3 N)).map id (fun _=>rfl) fun _ _ h=>Qj5 h
theorem Qo8 {H:Type}{enc:TypeId×Value→H}{w:World}(N:Nat):Rd enc Try.prog w N 41 QkN (fun x _=>(okL (okL QhZ)) x):=(Rd.slice (e:=66) (z:=1) (by kernel_rfl) (by kernel_rfl) (by decide) (fun x=>QfL rfl) (Qo7 N)).map id (fun _=>rfl) fun _ _ h=>Qj5 h
theorem QmO {H:Type}{enc:TypeId×Value→H}{w:World}(N:Nat):Rd enc Try.prog w N 23 Qm9 (fun x _=>(okL (okI .i64)) x):=(Rd.slice (e:=3) (z:=1) (by kernel_rfl) (by kernel_rfl) (by decide) (fun x=>QfL rfl) (QbK N)).map id (fun _=>rfl) fun _ _ h=>Qj5 h
def QiG (x:Qab):Prop:=(okI .i64) x.Task∧(okL (okI .i64)) x.Vars∧(okL (okI .i64)) x.Ins∧(okL (okI .i64)) x.Outs
theorem Qn4 {H:Type}{enc:TypeId×Value→H}{w:World}(N:Nat):Rd enc Try.prog w N 25 Qaa (fun x _=>QiG x):=by
 have h0:=(Rd.struct (fs:=[(3,0),(23,1),(23,2),(23,3)]) (tot:=4) (N:=N) (t:=25) (P:=Try.prog) (w:=w) (enc:=enc) (by kernel_rfl) (RdF.cons 3 0 1 (by kernel_rfl) (QbK N) (RdF.cons 23 1 1 (by kernel_rfl) (QmO N) (RdF.cons 23 2 1 (by kernel_rfl) (QmO N) (RdF.cons 23 3 1 (by kernel_rfl) (QmO N) RdF.nil)))))
 exact(h0.map (fun x=>⟨x.1,x.2.1,x.2.2.1,x.2.2.2.1⟩) (fun _=>rfl) (fun x d h=>by obtain⟨_,rfl,h⟩:=h;obtain⟨_,_,rfl,a0,h⟩:=h;obtain⟨_,_,rfl,a1,h⟩:=h;obtain⟨_,_,rfl,a2,h⟩:=h;obtain⟨_,_,rfl,a3,h⟩:=h;exact⟨a0,a1,a2,a3⟩)).mono (Qfz N)
def QkR (x:Qam):Prop:=(okI .i64) x.Most∧(okI .i64) x.Enough∧(okI .i64) x.Open∧(okI .i64) x.Done∧(okI .i64) x.Failed
theorem Qn5 {H:Type}{enc:TypeId×Value→H}{w:World}(N:Nat):Rd enc Try.prog w N 27 Qaf (fun x _=>QkR x):=by
 have h0:=(Rd.struct (fs:=[(3,0),(3,1),(3,2),(3,3),(3,4)]) (tot:=5) (N:=N) (t:=27) (P:=Try.prog) (w:=w) (enc:=enc) (by kernel_rfl) (RdF.cons 3 0 1 (by kernel_rfl) (QbK N) (RdF.cons 3 1 1 (by kernel_rfl) (QbK N) (RdF.cons 3 2 1 (by kernel_rfl) (QbK N) (RdF.cons 3 3 1 (by kernel_rfl) (QbK N) (RdF.cons 3 4 1 (by kernel_rfl) (QbK N) RdF.nil))))))
 exact(h0.map (fun x=>⟨x.1,x.2.1,x.2.2.1,x.2.2.2.1,x.2.2.2.2.1⟩) (fun _=>rfl) (fun x d h=>by obtain⟨_,rfl,h⟩:=h;obtain⟨_,_,rfl,a0,h⟩:=h;obtain⟨_,_,rfl,a1,h⟩:=h;obtain⟨_,_,rfl,a2,h⟩:=h;obtain⟨_,_,rfl,a3,h⟩:=h;obtain⟨_,_,rfl,a4,h⟩:=h;exact⟨a0,a1,a2,a3,a4⟩)).mono (Qfz N)
def QgM (x:Qk):Prop:=(okI .i64) x.Id∧QiG x.Mode∧QkR x.Batch∧(okI .i64) x.Until
theorem Qo9 {H:Type}{enc:TypeId×Value→H}{w:World}(N:Nat):Rd enc Try.prog w N 29 Qd (fun x _=>QgM x):=by
 have h0:=(Rd.struct (fs:=[(3,0),(25,1),(27,5),(3,10)]) (tot:=11) (N:=N) (t:=29) (P:=Try.prog) (w:=w) (enc:=enc) (by kernel_rfl) (RdF.cons 3 0 1 (by kernel_rfl) (QbK N) (RdF.cons 25 1 4 (by kernel_rfl) (Qn4 N) (RdF.cons 27 5 5 (by kernel_rfl) (Qn5 N) (RdF.cons 3 10 1 (by kernel_rfl) (QbK N) RdF.nil)))))
 exact(h0.map (fun x=>⟨x.1,x.2.1,x.2.2.1,x.2.2.2.1⟩) (fun _=>rfl) (fun x d h=>by obtain⟨_,rfl,h⟩:=h;obtain⟨_,_,rfl,a0,h⟩:=h;obtain⟨_,_,rfl,a1,h⟩:=h;obtain⟨_,_,rfl,a2,h⟩:=h;obtain⟨_,_,rfl,a3,h⟩:=h;exact⟨a0,a1,a2,a3⟩)).mono (Qfz N)
theorem Qpa {H:Type}{enc:TypeId×Value→H}{w:World}(N:Nat):Rd enc Try.prog w N 22 Qj8 (fun x _=>(okL QgM) x):=(Rd.slice (e:=29) (z:=11) (by kernel_rfl) (by kernel_rfl) (by decide) (fun x=>QfL rfl) (Qo9 N)).map id (fun _=>rfl) fun _ _ h=>Qj5 h
def Qfv (x:QS):Prop:=(okL (okL QhZ)) x.M∧(okL QgM) x.Items∧(okI .i64) x.Next∧(okI .i64) x.Now
theorem Qpm {H:Type}{enc:TypeId×Value→H}{w:World}(N:Nat):Rd enc Try.prog w N 43 Qs (fun x _=>Qfv x):=by
 have h0:=(Rd.struct (fs:=[(41,0),(22,1),(3,2),(3,3)]) (tot:=4) (N:=N) (t:=43) (P:=Try.prog) (w:=w) (enc:=enc) (by kernel_rfl) (RdF.cons 41 0 1 (by kernel_rfl) (Qo8 N) (RdF.cons 22 1 1 (by kernel_rfl) (Qpa N) (RdF.cons 3 2 1 (by kernel_rfl) (QbK N) (RdF.cons 3 3 1 (by kernel_rfl) (QbK N) RdF.nil)))))
 exact(h0.map (fun x=>⟨x.1,x.2.1,x.2.2.1,x.2.2.2.1⟩) (fun _=>rfl) (fun x d h=>by obtain⟨_,rfl,h⟩:=h;obtain⟨_,_,rfl,a0,h⟩:=h;obtain⟨_,_,rfl,a1,h⟩:=h;obtain⟨_,_,rfl,a2,h⟩:=h;obtain⟨_,_,rfl,a3,h⟩:=h;exact⟨a0,a1,a2,a3⟩)).mono (Qfz N)
def QiH (x:Qap):Prop:=(okI .i64) x.Do∧(okI .i64) x.Id∧QiG x.Mode∧(okI .i64) x.Num
theorem Qpn {H:Type}{enc:TypeId×Value→H}{w:World}(N:Nat):Rd enc Try.prog w N 45 QF (fun x _=>QiH x):=by
 have h0:=(Rd.struct (fs:=[(3,0),(3,1),(25,2),(3,6)]) (tot:=7) (N:=N) (t:=45) (P:=Try.prog) (w:=w) (enc:=enc) (by kernel_rfl) (RdF.cons 3 0 1 (by kernel_rfl) (QbK N) (RdF.cons 3 1 1 (by kernel_rfl) (QbK N) (RdF.cons 25 2 4 (by kernel_rfl) (Qn4 N) (RdF.cons 3 6 1 (by kernel_rfl) (QbK N) RdF.nil)))))
 exact(h0.map (fun x=>⟨x.1,x.2.1,x.2.2.1,x.2.2.2.1⟩) (fun _=>rfl) (fun x d h=>by obtain⟨_,rfl,h⟩:=h;obtain⟨_,_,rfl,a0,h⟩:=h;obtain⟨_,_,rfl,a1,h⟩:=h;obtain⟨_,_,rfl,a2,h⟩:=h;obtain⟨_,_,rfl,a3,h⟩:=h;exact⟨a0,a1,a2,a3⟩)).mono (Qfz N)
def QmP (x:(List (Int×Int))):Prop:=x.length*16≤reachBytes
theorem QoO {H:Type}{enc:TypeId×Value→H}{w:World}(N:Nat):Rd enc Try.prog w N 66 QG (fun x d=>(okL QhZ) x∧(Sz Try.prog 66 d→QmP x)):=(Rd.slice (e:=64) (z:=2) (by kernel_rfl) (by kernel_rfl) (by decide) (fun x=>QfL rfl) (Qn3 N)).map id (fun _=>rfl) fun _ _ h=>Qoy (t:=66) (e:=64) (b:=16) (by kernel_rfl) (by kernel_rfl) h
def Qn6 (x:(List (List (Int×Int)))):Prop:=x.length*24≤reachBytes∧∀y∈x,QmP y
theorem QoP {H:Type}{enc:TypeId×Value→H}{w:World}(N:Nat):Rd enc Try.prog w N 41 QkN (fun x d=>(okL (okL QhZ)) x∧(Sz Try.prog 41 d→Qn6 x)):=(Rd.slice (e:=66) (z:=1) (by kernel_rfl) (by kernel_rfl) (by decide) (fun x=>QfL rfl) (QoO N)).map id (fun _=>rfl) fun _ _ h=>Qoz (t:=41) (e:=66) (b:=24) (by kernel_rfl) (by kernel_rfl) h
def Qkh (x:(List Int)):Prop:=x.length*8≤reachBytes
theorem QlM {H:Type}{enc:TypeId×Value→H}{w:World}(N:Nat):Rd enc Try.prog w N 23 Qm9 (fun x d=>(okL (okI .i64)) x∧(Sz Try.prog 23 d→Qkh x)):=(Rd.slice (e:=3) (z:=1) (by kernel_rfl) (by kernel_rfl) (by decide) (fun x=>QfL rfl) (QbK N)).map id (fun _=>rfl) fun _ _ h=>Qoy (t:=23) (e:=3) (b:=8) (by kernel_rfl) (by kernel_rfl) h
def Qk7 (x:Qab):Prop:=Qkh x.Vars∧Qkh x.Ins∧Qkh x.Outs
theorem Qnl {H:Type}{enc:TypeId×Value→H}{w:World}(N:Nat):Rd enc Try.prog w N 25 Qaa (fun x d=>QiG x∧(Sz Try.prog 25 d→Qk7 x)):=by
 have h0:=(Rd.struct (fs:=[(3,0),(23,1),(23,2),(23,3)]) (tot:=4) (N:=N) (t:=25) (P:=Try.prog) (w:=w) (enc:=enc) (by kernel_rfl) (RdF.cons 3 0 1 (by kernel_rfl) (QbK N) (RdF.cons 23 1 1 (by kernel_rfl) (QlM N) (RdF.cons 23 2 1 (by kernel_rfl) (QlM N) (RdF.cons 23 3 1 (by kernel_rfl) (QlM N) RdF.nil)))))
 exact(h0.map (fun x=>⟨x.1,x.2.1,x.2.2.1,x.2.2.2.1⟩) (fun _=>rfl) (fun x d h=>by obtain⟨_,rfl,h⟩:=h;obtain⟨_,_,rfl,a0,h⟩:=h;obtain⟨_,_,rfl,a1,h⟩:=h;obtain⟨_,_,rfl,a2,h⟩:=h;obtain⟨_,_,rfl,a3,h⟩:=h;exact⟨⟨a0,a1.1,a2.1,a3.1⟩,fun hz=>⟨a1.2 (Sz.field Try.underlying25 hz (j:=1) rfl rfl),a2.2 (Sz.field Try.underlying25 hz (j:=2) rfl rfl),a3.2 (Sz.field Try.underlying25 hz (j:=3) rfl rfl)⟩⟩)).mono (Qfz N)
def Qn7 (x:Qk):Prop:=Qk7 x.Mode
theorem QoQ {H:Type}{enc:TypeId×Value→H}{w:World}(N:Nat):Rd enc Try.prog w N 29 Qd (fun x d=>QgM x∧(Sz Try.prog 29 d→Qn7 x)):=by
 have h0:=(Rd.struct (fs:=[(3,0),(25,1),(27,5),(3,10)]) (tot:=11) (N:=N) (t:=29) (P:=Try.prog) (w:=w) (enc:=enc) (by kernel_rfl) (RdF.cons 3 0 1 (by kernel_rfl) (QbK N) (RdF.cons 25 1 4 (by kernel_rfl) (Qnl N) (RdF.cons 27 5 5 (by kernel_rfl) (Qn5 N) (RdF.cons 3 10 1 (by kernel_rfl) (QbK N) RdF.nil)))))
 exact(h0.map (fun x=>⟨x.1,x.2.1,x.2.2.1,x.2.2.2.1⟩) (fun _=>rfl) (fun x d h=>by obtain⟨_,rfl,h⟩:=h;obtain⟨_,_,rfl,a0,h⟩:=h;obtain⟨_,_,rfl,a1,h⟩:=h;obtain⟨_,_,rfl,a2,h⟩:=h;obtain⟨_,_,rfl,a3,h⟩:=h;exact⟨⟨a0,a1.1,a2,a3⟩,fun hz=>a1.2 (Sz.field Try.underlying29 hz (j:=1) rfl rfl)⟩)).mono (Qfz N)
def Qn8 (x:(List Qk)):Prop:=x.length*136≤reachBytes∧∀y∈x,Qn7 y
theorem QoR {H:Type}{enc:TypeId×Value→H}{w:World}(N:Nat):Rd enc Try.prog w N 22 Qj8 (fun x d=>(okL QgM) x∧(Sz Try.prog 22 d→Qn8 x)):=(Rd.slice (e:=29) (z:=11) (by kernel_rfl) (by kernel_rfl) (by decide) (fun x=>QfL rfl) (QoQ N)).map id (fun _=>rfl) fun _ _ h=>Qoz (t:=22) (e:=29) (b:=136) (by kernel_rfl) (by kernel_rfl) h
def Qjr (x:QS):Prop:=Qn6 x.M∧Qn8 x.Items
theorem Qnm {H:Type}{enc:TypeId×Value→H}{w:World}(N:Nat):Rd enc Try.prog w N 43 Qs (fun x d=>Qfv x∧(Sz Try.prog 43 d→Qjr x)):=by
 have h0:=(Rd.struct (fs:=[(41,0),(22,1),(3,2),(3,3)]) (tot:=4) (N:=N) (t:=43) (P:=Try.prog) (w:=w) (enc:=enc) (by kernel_rfl) (RdF.cons 41 0 1 (by kernel_rfl) (QoP N) (RdF.cons 22 1 1 (by kernel_rfl) (QoR N) (RdF.cons 3 2 1 (by kernel_rfl) (QbK N) (RdF.cons 3 3 1 (by kernel_rfl) (QbK N) RdF.nil)))))
 exact(h0.map (fun x=>⟨x.1,x.2.1,x.2.2.1,x.2.2.2.1⟩) (fun _=>rfl) (fun x d h=>by obtain⟨_,rfl,h⟩:=h;obtain⟨_,_,rfl,a0,h⟩:=h;obtain⟨_,_,rfl,a1,h⟩:=h;obtain⟨_,_,rfl,a2,h⟩:=h;obtain⟨_,_,rfl,a3,h⟩:=h;exact⟨⟨a0.1,a1.1,a2,a3⟩,fun hz=>⟨a0.2 (Sz.field Try.underlying43 hz (j:=0) rfl rfl),a1.2 (Sz.field Try.underlying43 hz (j:=1) rfl rfl)⟩⟩)).mono (Qfz N)
def QmQ (x:Qap):Prop:=Qk7 x.Mode
theorem QoS {H:Type}{enc:TypeId×Value→H}{w:World}(N:Nat):Rd enc Try.prog w N 45 QF (fun x d=>QiH x∧(Sz Try.prog 45 d→QmQ x)):=by
 have h0:=(Rd.struct (fs:=[(3,0),(3,1),(25,2),(3,6)]) (tot:=7) (N:=N) (t:=45) (P:=Try.prog) (w:=w) (enc:=enc) (by kernel_rfl) (RdF.cons 3 0 1 (by kernel_rfl) (QbK N) (RdF.cons 3 1 1 (by kernel_rfl) (QbK N) (RdF.cons 25 2 4 (by kernel_rfl) (Qnl N) (RdF.cons 3 6 1 (by kernel_rfl) (QbK N) RdF.nil)))))
 exact(h0.map (fun x=>⟨x.1,x.2.1,x.2.2.1,x.2.2.2.1⟩) (fun _=>rfl) (fun x d h=>by obtain⟨_,rfl,h⟩:=h;obtain⟨_,_,rfl,a0,h⟩:=h;obtain⟨_,_,rfl,a1,h⟩:=h;obtain⟨_,_,rfl,a2,h⟩:=h;obtain⟨_,_,rfl,a3,h⟩:=h;exact⟨⟨a0,a1,a2.1,a3⟩,fun hz=>a2.2 (Sz.field Try.underlying45 hz (j:=2) rfl rfl)⟩)).mono (Qfz N)
namespace LawItemsBytes
theorem own : ownKnob Try.prog.godebug=none:=by kernel_rfl
theorem Qon : laidOutB Try.prog=true:=by kernel_rfl
theorem QnX : ∀t∈Try.f4.params.toList,Try.prog.readableRec t=true∧t<Try.prog.types.size:=by
 have h:(Try.f4.params.toList.all fun t=>Try.prog.readableRec t&&decide (t<Try.prog.types.size))=true:=by kernel_rfl
 intro t ht
 have:=QR.1 h t ht
 rw [Qw,Qed]at this
 exact this
set_option maxRecDepth 100000 in
theorem QoT (hF:∀(a0:QS) (a1:Qap) (a2:QS),(Qfv a0∧Qjr a0)→(QiH a1∧QmQ a1)→(Qfv a2∧Qjr a2)→QbA a0 a1 a2=some true)(os:Os)(started:os.Started)(H:Type)(enc:TypeId×Value→H):
  ReturnsInHanded {} Try.checked os 4 .any (Rows.itemsBytesSpec.pre6 enc Try.prog Try.f4 Rows.itemsBytesRow.domain false) (Rows.itemsBytesSpec.post enc Try.prog Try.f4 false true false false):=by
 refine QlB (C:=Try.checked) own started (by kernel_rfl) Try.func4
  (ChangeSpec.witness6 (enc:=enc) (C:=Try.checked) false ⟨#[],#[.agg #[.slice none 0 0,.slice none 0 0,.int .i64 0,.int .i64 0],.agg #[.int .i64 0,.int .i64 0,.int .i64 0,.slice none 0 0,.slice none 0 0,.slice none 0 0,.int .i64 0],.agg #[.slice none 0 0,.slice none 0 0,.int .i64 0,.int .i64 0]],[]⟩ 8 (by kernel_rfl) (by kernel_rfl) (by kernel_rfl) (by kernel_rfl)) ?_
 intro W base args ds gs before hval0 hW hcnd hz _
 have hval:∀(j:Nat) t v,Try.f4.params[j]? = some t→args[j]? = some v→Value.okWide Try.prog W .any base t v:=hval0
 have hW1:=hW
 obtain⟨p,q,hA0,hV,_,_,_⟩:=hW
 obtain⟨rfl,_⟩:=trodVars_none hV
 have hA:DataW.TrodAll enc Try.prog W 0 (fun _=>true) true Try.f4.params.toList args.toList ds p:=hA0
 rw [Try.params4]at hA hval
 obtain⟨v0,vs0,d0,ds0,p0,q0,hargs,rfl,_,h0,r0⟩:=trodAll_cons hA
 obtain⟨v1,vs1,d1,ds1,p1,q1,rfl,rfl,_,h1,r1⟩:=trodAll_cons r0
 obtain⟨v2,vs2,d2,ds2,p2,q2,rfl,rfl,_,h2,r2⟩:=trodAll_cons r1
 obtain⟨rfl,rfl,_⟩:=trodAll_nil r2
 obtain rfl:args=#[v0,v1,v2]:=by cases args;simp_all
 obtain⟨a0,w0',c0⟩:=Rd.open (fun N=>Qnm N) h0
 have w0:=And.intro w0'.1 (w0'.2 (Sz.all hz (j:=0) (by kernel_rfl) rfl))
 obtain⟨_,rfl⟩:=QjG (P:=Try.prog) (t:=43) (fs:=[(41,0),(22,1),(3,2),(3,3)]) (tot:=4) (by kernel_rfl) (hval 0 43 v0 rfl rfl)
 have e0:=c0.argS
 obtain⟨a1,w1',c1⟩:=Rd.open (fun N=>QoS N) h1
 have w1:=And.intro w1'.1 (w1'.2 (Sz.all hz (j:=1) (by kernel_rfl) rfl))
 obtain⟨_,rfl⟩:=QjG (P:=Try.prog) (t:=45) (fs:=[(3,0),(3,1),(25,2),(3,6)]) (tot:=7) (by kernel_rfl) (hval 1 45 v1 rfl rfl)
 have e1:=c1.argS
 obtain⟨a2,w2',c2⟩:=Rd.open (fun N=>Qnm N) h2
 have w2:=And.intro w2'.1 (w2'.2 (Sz.all hz (j:=2) (by kernel_rfl) rfl))
 obtain⟨_,rfl⟩:=QjG (P:=Try.prog) (t:=43) (fs:=[(41,0),(22,1),(3,2),(3,3)]) (tot:=4) (by kernel_rfl) (hval 2 43 v2 rfl rfl)
 have e2:=c2.argS
 refine(Qf.law (us:=[.agg (Qs a0),.agg (QF a1),.agg (Qs a2)]) (QhY a0 a1 a2 (hF a0 a1 a2 w0 w1 w2)) (fun g hg=>by rw [show Qmf Try.prog=none from by kernel_rfl]at hg;cases hg) rfl (fun j x v hx hv=>?_)).mono fun e W2 ⟨he,hb⟩=>?_
 ·match j with
  | 0=>cases hx;cases hv;exact e0
  | 1=>cases hx;cases hv;exact e1
  | 2=>cases hx;cases hv;exact e2
  | j+3=>simp at hx
 subst he
 exact⟨_,rfl,QnK Qon QnX hW1 rfl hb rfl Try.underlying4 rfl rfl rfl⟩
theorem proved_of (hF:∀(a0:QS) (a1:Qap) (a2:QS),(Qfv a0∧Qjr a0)→(QiH a1∧QmQ a1)→(Qfv a2∧Qjr a2)→QbA a0 a1 a2=some true):Rows.ItemsBytesSaid:=
 OpenClaim.holds_of_wide 4 Try.f4 rfl rfl rfl rfl rfl rfl rfl ⟨rfl,rfl,rfl,rfl,rfl⟩ rfl rfl rfl rfl rfl (by kernel_rfl) Try.func4 (by kernel_rfl)
  (QbC (by kernel_rfl)) (by unfold Func.isWrapper;first | (rw [if_pos (by decide +kernel)];kernel_rfl) | (rw [if_neg (by decide +kernel)];exact⟨rfl,rfl⟩))
  (fun os started H enc _=>QoT hF os started H enc)
end LawItemsBytes
theorem QlN : reachBytes=140737488351232:=by decide
theorem Ql8 {o:Qab}(h:Qk7 o):QlJ o:=by
 have e:=QlN
 obtain⟨h1,h2,h3⟩:=h
 unfold Qkh at h1 h2 h3
 unfold QlJ;omega
theorem Ql9 {c:QS}(h:Qjr c):QnW c:=by
 have e:=QlN
 obtain⟨⟨h1,h2⟩,h3,h4⟩:=h
 exact⟨⟨by omega,fun b hb=>by have:=h2 b hb;unfold QmP at this;omega⟩,fun x hx=>Ql8 (h4 x hx)⟩
theorem proved : Rows.ItemsBytesSaid:=LawItemsBytes.proved_of fun a0 a1 a2 h0 h1 h2=>QmN (Ql9 h0.2) (Ql9 h2.2) (Ql8 h1.2)

end Go.Proofs.Ytbcmaoldnhphlaa
