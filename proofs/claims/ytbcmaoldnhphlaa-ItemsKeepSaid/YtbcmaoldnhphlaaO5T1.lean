/- What functions of the program do, as functions over plain data, and the walks that show it: printed by a program. -/
import Derived.Test.YtbcmaoldnhphlaaO5V3
import Derived.Test.YtbcmaoldnhphlaaProg
set_option linter.unusedVariables false
set_option linter.unusedSimpArgs false
set_option linter.unusedSectionVars false
set_option linter.deprecated false
set_option maxRecDepth 100000
set_option maxHeartbeats 4000000
noncomputable section
namespace Go.Proofs
open Go Go.RowKit Go.Vm Go.Proofs.Try
structure QaF where
 Task:Int
 Vars:(List Int)
 Ins:(List Int)
 Outs:(List Int)
structure Q5 where
 Most:Int
 Enough:Int
 Open:Int
 Done:Int
 Failed:Int
structure Qi where
 Id:Int
 Mode:QaF
 Batch:Q5
 Until:Int
structure Qbn where
 M:(List (List (Int×Int)))
 Items:(List Qi)
 Next:Int
 Now:Int
structure Qbg where
 Do:Int
 Id:Int
 Mode:QaF
 Num:Int
structure Qd where
 b:(List Int)
 bad:Bool
structure Qe where
 id:Int
 at_:Int
 place:Int
structure Qlr where
 b:(List Int)
 at_:Int
 bad:Bool
def Qo (x:Int):List V:=[.i .i64 x]
def QF (x:(Int×Int)):List V:=[.i .i64 x.1,.i .i64 x.2]
def Q0 (x:(List (Int×Int))):List V:=[.sl 2 (x.map QF)]
def QlR (x:(List Int)):List V:=[.sl 1 (x.map Qo)]
def Qaw (x:QaF):List V:=[.i .i64 x.Task,.sl 1 (x.Vars.map Qo),.sl 1 (x.Ins.map Qo),.sl 1 (x.Outs.map Qo)]
def Qaf (x:Q5):List V:=[.i .i64 x.Most,.i .i64 x.Enough,.i .i64 x.Open,.i .i64 x.Done,.i .i64 x.Failed]
def Qc (x:Qi):List V:=[.i .i64 x.Id,.i .i64 x.Mode.Task,.sl 1 (x.Mode.Vars.map Qo),.sl 1 (x.Mode.Ins.map Qo),.sl 1 (x.Mode.Outs.map Qo),.i .i64 x.Batch.Most,.i .i64 x.Batch.Enough,.i .i64 x.Batch.Open,.i .i64 x.Batch.Done,.i .i64 x.Batch.Failed,.i .i64 x.Until]
def Qi9 (x:(List Qi)):List V:=[.sl 11 (x.map Qc)]
def QW (x:Qbn):List V:=[.sl 1 (x.M.map Q0),.sl 11 (x.Items.map Qc),.i .i64 x.Next,.i .i64 x.Now]
def QN (x:Qbg):List V:=[.i .i64 x.Do,.i .i64 x.Id,.i .i64 x.Mode.Task,.sl 1 (x.Mode.Vars.map Qo),.sl 1 (x.Mode.Ins.map Qo),.sl 1 (x.Mode.Outs.map Qo),.i .i64 x.Num]
def Qn (x:Int):List V:=[.i .u8 x]
def Qb (x:Qd):List V:=[.sl 1 (x.b.map Qn),.b x.bad]
def Qg (x:Qe):List V:=[.i .i64 x.id,.i .i64 x.at_,.i .i64 x.place]
theorem Qnl (a0 a1 a2 a3 a4 b0 b1 b2 b3 b4:Int):EqT Try.prog 27 [.int .i64 a0,.int .i64 a1,.int .i64 a2,.int .i64 a3,.int .i64 a4] [.int .i64 b0,.int .i64 b1,.int .i64 b2,.int .i64 b3,.int .i64 b4] ((a0==b0)&&((a1==b1)&&((a2==b2)&&((a3==b3)&&(a4==b4))))):=by
 refine⟨by kernel_rfl,fun w=>?_⟩
 have u3:=Try.underlying3
 have g3:=Try.isAgg3
 have z3:=Try.sizeOf3
 have hS:Try.prog.underlying 27=some (.struct (Try.prog.fieldsOf 27)):=by kernel_rfl
 have hp:Try.prog.stoodInHeld 27=false:=by kernel_rfl
 show(Op.equalIn (9999+1) 27 (.agg #[.int .i64 a0,.int .i64 a1,.int .i64 a2,.int .i64 a3,.int .i64 a4]) (.agg #[.int .i64 b0,.int .i64 b1,.int .i64 b2,.int .i64 b3,.int .i64 b4])).run Try.prog w=_
 rw [run_equalIn_agg w 9999 27 _ _ hS hp]
 simp only [Program.fieldsOf,Try.underlying27]
 go_simp
 by_cases h0:a0=b0<;>by_cases h1:a1=b1<;>by_cases h2:a2=b2<;>by_cases h3:a3=b3<;>by_cases h4:a4=b4<;>simp [h0,h1,h2,h3,h4]
theorem Qnm (a0 a1 b0 b1:Int):EqT Try.prog 64 [.int .i64 a0,.int .i64 a1] [.int .i64 b0,.int .i64 b1] ((a0==b0)&&(a1==b1)):=by
 refine⟨by kernel_rfl,fun w=>?_⟩
 have u3:=Try.underlying3
 have g3:=Try.isAgg3
 have z3:=Try.sizeOf3
 show(Op.equalIn (9999+1) 64 (.agg #[.int .i64 a0,.int .i64 a1]) (.agg #[.int .i64 b0,.int .i64 b1])).run Try.prog w=_
 rw [Op.equalIn]
 simp only [Sem.run_bind,run_underlying Try.underlying64,Result.andThen_ok]
 simp only [Std.Legacy.Range.forIn_eq_forIn_range',Std.Legacy.Range.size,Nat.sub_zero,Nat.add_sub_cancel,Nat.div_one,List.range'_succ,List.range'_zero,List.forIn_cons,List.forIn_nil]
 go_simp
 by_cases h0:a0=b0<;>by_cases h1:a1=b1<;>simp [h0,h1]
def QlS : Go.Shelf.Ren:=⟨fun | 22=>39 | 29=>80 | 30=>81 | n=>n,fun | 24=>22 | 9=>29 | n=>n,fun n=>n⟩
theorem Qls : Qh6 Try.prog QlS "slices.Insert[[]baldric/api.Item,baldric/api.Item]" "slices.overlaps[baldric/api.Item]" 29 11 136 (.agg #[.int .i64 0,.int .i64 0,.slice none 0 0,.slice none 0 0,.slice none 0 0,.int .i64 0,.int .i64 0,.int .i64 0,.int .i64 0,.int .i64 0,.int .i64 0]) where
 mixed:=by kernel_rfl
 f22:=Try.func39.trans (congrArg some (by kernel_rfl))
 f29:=Try.func80.trans (congrArg some (by kernel_rfl))
 nm:=by kernel_rfl
 nx:=by kernel_rfl
 fd:=by kernel_rfl
 t0:=Try.underlying0
 t3:=Try.underlying3
 t4:=Try.underlying4
 t24:=Try.underlying22
 zE:=Try.sizeOf29
 iE:=by kernel_rfl
 zc:=by kernel_rfl
 z0:=by decide
 small:=by decide
theorem QgM : QiH Try.prog 129 .u64=true:=by kernel_rfl
theorem Qmp : QiH Try.prog 3 .i64=true:=by kernel_rfl
theorem Qmq : QiH Try.prog 5 .u8=true:=by kernel_rfl
theorem QkA : QdQ Try.prog 3 (V.i .i64) (Value.int .i64):=QdQ.int (by kernel_rfl)
theorem Qlt : (QbM Try.prog 120 "Pop" = some (127,true)∧QiE Try.prog 120=true)∨(QbM Try.prog 120 "Pop" = some (127,false)∧QfC Try.prog 120=true):=.inl ⟨by kernel_rfl,by kernel_rfl⟩
theorem QkO : (QbM Try.prog 120 "Push" = some (128,true)∧QiE Try.prog 120=true)∨(QbM Try.prog 120 "Push" = some (128,false)∧QfC Try.prog 120=true):=.inl ⟨by kernel_rfl,by kernel_rfl⟩
theorem mixed : Try.prog.follows .mixedOrders=true:=by kernel_rfl
theorem QkB : Qgt Try.prog 111=some (3,116):=by kernel_rfl
theorem QmF : Qgt Try.prog 74=some (3,4):=by kernel_rfl
theorem Qja : QbM Try.prog 120 "Len" = some (124,false)∧Qga Try.prog 120 113=true∧Qbp Try.prog 113=some false:=⟨by kernel_rfl,by kernel_rfl,by kernel_rfl⟩
theorem Qgy : QbM Try.prog 120 "Less" = some (125,false)∧Qga Try.prog 120 113=true∧Qbp Try.prog 113=some false:=⟨by kernel_rfl,by kernel_rfl,by kernel_rfl⟩
theorem Qgz : QbM Try.prog 120 "Swap" = some (126,false)∧Qga Try.prog 120 113=true∧Qbp Try.prog 113=some false:=⟨by kernel_rfl,by kernel_rfl,by kernel_rfl⟩
theorem Qnn : Try.prog.underlying 23=some (.slice 3):=by kernel_rfl
theorem Qm7 : Try.prog.underlying 116=some (.pointer 118):=by kernel_rfl
theorem Qm8 : Qei Try.prog 116 (.lit (.pointer none)):=Qei.one (v:=.pointer none) (by kernel_rfl)
theorem QnF : Qei Try.prog 4 (V.b false):=Qei.one (v:=.bool false) (by kernel_rfl)
theorem QnG : QZ Try.prog 3=some [.i .i64 0]:=by kernel_rfl
theorem QnH : QZ Try.prog 5=some [.i .u8 0]:=by kernel_rfl
theorem Qno : QZ Try.prog 25=some [.i .i64 0,.lit (.slice none 0 0),.lit (.slice none 0 0),.lit (.slice none 0 0)]:=by kernel_rfl
theorem Qnp : QZ Try.prog 27=some [.i .i64 0,.i .i64 0,.i .i64 0,.i .i64 0,.i .i64 0]:=by kernel_rfl
theorem Qnq : QZ Try.prog 29=some [.i .i64 0,.i .i64 0,.lit (.slice none 0 0),.lit (.slice none 0 0),.lit (.slice none 0 0),.i .i64 0,.i .i64 0,.i .i64 0,.i .i64 0,.i .i64 0,.i .i64 0]:=by kernel_rfl
theorem Qnr : QZ Try.prog 43=some [.lit (.slice none 0 0),.lit (.slice none 0 0),.i .i64 0,.i .i64 0]:=by kernel_rfl
theorem Qns : QZ Try.prog 45=some [.i .i64 0,.i .i64 0,.i .i64 0,.lit (.slice none 0 0),.lit (.slice none 0 0),.lit (.slice none 0 0),.i .i64 0]:=by kernel_rfl
theorem Qnt : QZ Try.prog 64=some [.i .i64 0,.i .i64 0]:=by kernel_rfl
theorem Qnu : QZ Try.prog 66=some [.lit (.slice none 0 0)]:=by kernel_rfl
theorem Qnv : QZ Try.prog 93=some [.lit (.slice none 0 0),.b false]:=by kernel_rfl
theorem Qhw : QZ Try.prog 95=some [.lit (.pointer none)]:=by kernel_rfl
theorem Qm9 : QZ Try.prog 103=some [.lit (.slice none 0 0),.i .i64 0,.b false]:=by kernel_rfl
theorem Qna : QZ Try.prog 115=some [.lit (.slice none 0 0),.lit (.map none)]:=by kernel_rfl
theorem Qnb : QZ Try.prog 116=some [.lit (.pointer none)]:=by kernel_rfl
theorem Qnc : QZ Try.prog 118=some [.i .i64 0,.i .i64 0,.i .i64 0]:=by kernel_rfl
theorem QlT : QZ Try.prog 140=some [.lit (.pointer none)]:=by kernel_rfl
def tab : Tab:={ ag:=[(3,false),(4,false),(5,false),(22,false),(23,false),(25,true),(27,true),(29,true),(41,false),(43,true),(45,true),(47,false),(64,true),(66,false),(95,false),(111,false),(113,false),(116,false),(140,false)],sz:=[(3,1),(4,1),(22,1),(23,1),(25,4),(27,5),(29,11),(41,1),(43,4),(45,7),(47,1),(64,2),(113,1),(116,1)],fo:=[(25,[0,1,2,3]),(27,[0,1,2,3,4]),(29,[0,1,5,10]),(43,[0,1,2,3]),(45,[0,1,2,6]),(93,[0,1]),(103,[0,1,2]),(115,[0,1]),(118,[0,1,2])],sp:=[(25,[(0,1),(1,1),(2,1),(3,1)]),(27,[(0,1),(1,1),(2,1),(3,1),(4,1)]),(29,[(0,1),(1,4),(5,5),(10,1)]),(43,[(0,1),(1,1),(2,1),(3,1)]),(45,[(0,1),(1,1),(2,4),(6,1)]),(93,[(0,1),(1,1)]),(103,[(0,1),(1,1),(2,1)]),(115,[(0,1),(1,1)]),(118,[(0,1),(1,1),(2,1)])],es:=[(22,(29,11,136)),(23,(3,1,8)),(40,(66,1,24)),(41,(66,1,24)),(47,(5,1,1)),(65,(64,2,16)),(66,(64,2,16)),(113,(116,1,8)),(135,(95,1,8)),(141,(140,1,8))],ar:=[(64,(2,1))],zv:=[(3,[.i .i64 0]),(5,[.i .u8 0]),(25,[.i .i64 0,.lit (.slice none 0 0),.lit (.slice none 0 0),.lit (.slice none 0 0)]),(27,[.i .i64 0,.i .i64 0,.i .i64 0,.i .i64 0,.i .i64 0]),(29,[.i .i64 0,.i .i64 0,.lit (.slice none 0 0),.lit (.slice none 0 0),.lit (.slice none 0 0),.i .i64 0,.i .i64 0,.i .i64 0,.i .i64 0,.i .i64 0,.i .i64 0]),(43,[.lit (.slice none 0 0),.lit (.slice none 0 0),.i .i64 0,.i .i64 0]),(45,[.i .i64 0,.i .i64 0,.i .i64 0,.lit (.slice none 0 0),.lit (.slice none 0 0),.lit (.slice none 0 0),.i .i64 0]),(64,[.i .i64 0,.i .i64 0]),(66,[.lit (.slice none 0 0)]),(93,[.lit (.slice none 0 0),.b false]),(95,[.lit (.pointer none)]),(103,[.lit (.slice none 0 0),.i .i64 0,.b false]),(115,[.lit (.slice none 0 0),.lit (.map none)]),(116,[.lit (.pointer none)]),(118,[.i .i64 0,.i .i64 0,.i .i64 0]),(140,[.lit (.pointer none)])],sb:=[9],bo:=[4],cc:=[116,120],en:=[9,10,11,12,13,16,18,19,21,23,24,25,26,27,28,29,30,31,32,33,34,35,36,37,38,39,40,41,43,44,45,46,50,51,54,55,56,57,58,59,60,61,62,63,64,65,66,67,68,69,70,71,72,73,74,75,76,77,78,79,82,84,85,86,87,89,90,91,92,93,94,95,96,97,98,99,100,101,102,104,105,124,125,126,127,128] }
theorem Qm : QaS Try.prog tab:=Tab.ok (by kernel_rfl) (Qb5.2 ⟨QnG,Qb5.2 ⟨QnH,Qb5.2 ⟨Qno,Qb5.2 ⟨Qnp,Qb5.2 ⟨Qnq,Qb5.2 ⟨Qnr,Qb5.2 ⟨Qns,Qb5.2 ⟨Qnt,Qb5.2 ⟨Qnu,Qb5.2 ⟨Qnv,Qb5.2 ⟨Qhw,Qb5.2 ⟨Qm9,Qb5.2 ⟨Qna,Qb5.2 ⟨Qnb,Qb5.2 ⟨Qnc,Qb5.2 ⟨QlT,fun _ h=>(by cases h)⟩⟩⟩⟩⟩⟩⟩⟩⟩⟩⟩⟩⟩⟩⟩⟩)
theorem Qa {C:Ctx}{Q:Exit→St→Prop}{n:Nat}{pt pt1:Pt}{ks ks1:List Fr}{σ σ1:St}{φ:Prop}(hC:Qca Try.prog C n)(ds:List Dir)(e:Vm.go Try.prog C tab n ds pt ks σ True=some ⟨pt1,ks1,σ1,φ⟩)(hφ:φ)(h:AK Try.prog C Q pt1 ks1 σ1):AK Try.prog C Q pt ks σ:=AK.go Qm hC ds e hφ h
abbrev QBg := List (Int×Int)
abbrev QMk := List QBg
abbrev QLL := List (List Int)
abbrev QSB := List (ByteArray×Bool)
theorem tt_ : True:=trivial
theorem an_ {a b:Prop}(x:a)(y:b):a∧b:=⟨x,y⟩
theorem ex_ {α:Sort _}{p:α→Prop}(w:α)(h:p w):∃x,p x:=⟨w,h⟩
end Go.Proofs
namespace Go.Vm
open Go Go.RowKit
noncomputable abbrev Dir.K (a b:List Nat):Dir:=.keep a b
noncomputable abbrev Dir.S (a:Nat)(b:V):Dir:=.say a b
noncomputable abbrev Dir.O (a:Nat)(b:Ob):Dir:=.sayO a b
noncomputable abbrev Dir.T:Dir:=.br true
noncomputable abbrev Dir.F:Dir:=.br false
noncomputable abbrev Dw.N:Dw:=.a .no none false
noncomputable abbrev V.I (n:Int):V:=.i .i64 n
end Go.Vm
namespace Go.Proofs
open Go Go.RowKit Go.Vm Go.Proofs.Try
theorem bg_ {α:Type}{c:Bool}{x y:Option α}{r:α}{G:Prop}(h:(bif c then x else y)=some r)(f:c=true→x=some r→G)(g:c=false→y=some r→G):G:=by
 cases c
 ·exact g rfl h
 exact f rfl h
theorem cb_ {a b:Bool}(h:a=b):V.b a=V.b b:=congrArg V.b h
theorem tc_ {a b:Bool}(h:a=b):True∧V.b a=V.b b:=⟨trivial,congrArg V.b h⟩
def Qnd : Exit→Bool
 | .normal=>true
 | .ret=>true
 | _=>false
theorem d1_ {C:Ctx}{t:Nat}{r:V}{outs:List (Nat×Ob)}{σ:St}{e:Exit}(he:Qnd e=true)(h:Go.Vm.look σ.fr t=some r)(hs:Qb9 σ.hp outs):AK Try.prog C (Qk0 Try.prog [.tmp t] (Qp r outs)) (.x e) [] σ:=by
 cases e<;>first | exact AK.done ⟨[r],⟨h,trivial⟩,Qay hs⟩|cases he
theorem d2_ {C:Ctx}{t u:Nat}{r s:V}{outs:List (Nat×Ob)}{σ:St}{e:Exit}(he:Qnd e=true)(h:Go.Vm.look σ.fr t=some r)(k:Go.Vm.look σ.fr u=some s)(hs:Qb9 σ.hp outs):AK Try.prog C (Qk0 Try.prog [.tmp t,.tmp u] (Qp (.tup [r,s]) outs)) (.x e) [] σ:=by
 cases e<;>first | exact AK.done ⟨[r,s],⟨h,k,trivial⟩,Qay hs⟩|cases he
theorem tg_ {C:Ctx}{Q:Exit→St→Prop}{n:Nat}{pt pt1:Pt}{ks ks1:List Fr}{σ σ1:St}(hC:Qca Try.prog C n)(ds:List Dir)(e:Vm.go Try.prog C tab n ds pt ks σ True=some ⟨pt1,ks1,σ1,True⟩)(h:AK Try.prog C Q pt1 ks1 σ1):AK Try.prog C Q pt ks σ:=AK.go Qm hC ds e trivial h
theorem Qb3 {c:Bool}{β:Type}{f:Unit→Option β}{r:β}(h:(chk c).bind f=some r):c=true∧f ()=some r:=by
 obtain⟨_,k,h⟩:=Qf h
 exact⟨QmX k,h⟩
def Qem (b:Int)(a:Int):Option Qi:=
 some (Qi.mk b (QaF.mk 0 ([]:(List Int)) ([0]:List Int) ([0]:List Int)) (Q5.mk 2 1 1 0 0) a)
theorem Qen (b a){r}(h:Qem b a=some r):Qh prog 36 [.I b,.I a] [] (Qp (.agg (Qc r)) []):=by
 refine Qh.walk 12 func36 rfl rfl rfl fun C hC=>?_
 refine Qa hC [.n 9,.v .no [] (.agg (Qaf (Q5.mk 2 1 1 0 0))),.v (.bd []) [] (.sl 1 (([0]:List Int).map Qo)),.v (.bd []) [] (.sl 1 (([0]:List Int).map Qo)),.v .no [none,some 1,none,none] (.agg (Qaw (QaF.mk 0 ([]:(List Int)) ([0]:List Int) ([0]:List Int)))),.v .no [] (.agg (Qc (Qi.mk b (QaF.mk 0 ([]:(List Int)) ([0]:List Int) ([0]:List Int)) (Q5.mk 2 1 1 0 0) a))),.n 1,.O 4 (.var (Qc (Qi.mk b (QaF.mk 0 ([]:(List Int)) ([0]:List Int) ([0]:List Int)) (Q5.mk 2 1 1 0 0) a))),.n 3,.K [4] [4]] rfl ⟨⟨⟨⟨⟨⟨tt_,rfl⟩,rfl⟩,rfl⟩,rfl⟩,rfl⟩,rfl⟩ ?_
 cases h
 exact AK.done (ex_ [_] (an_ (an_ (ex_ _ (ex_ _ (an_ rfl (an_ rfl (Or.inl (an_ (Qm.ag rfl) (an_ (Qm.sz rfl) rfl))))))) tt_) (Qay tt_)))
def Q8 (a:(List Int)):Option (List Int):=
 (chk (decide ((([]:List Int).length+a.length)*8≤140737488355328))).bind fun _=>
 some (([]:List Int)++a)
theorem Qbv (a){r}(h:Q8 a=some r):Qh prog 82 [.sl 1 (a.map Qo)] [] (Qp (.own 600 r.length) [(600,.arr 1 (r.map Qo))]):=by
 refine Qh.walk 8 func82 rfl rfl rfl fun C hC=>?_
 unfold Q8 at h
 refine tg_ hC [.n 9] rfl ?_
 refine AK.eqNil rfl rfl rfl (Qu hC.n rfl) rfl rfl Qnn ?_ ?_
 ·intro b
  replace h:some ([]:List Int)=some r:=by simpa [chk,List.map_eq_nil_iff.1 b] using h
  refine Qa hC [.n 10,.adopt 2 600 1,.O 600 (.arr 1 (([]:List Int).map Qo)),.S 2 (.own 600 ([]:List Int).length)] rfl ⟨⟨tt_,rfl⟩,rfl⟩ ?_
  cases h
  exact d1_ rfl rfl ⟨rfl,tt_⟩
 obtain⟨c,h⟩:=Qb3 h
 refine Qa hC [.n 8,.O 5 (.arr 1 (([]:List Int).map Qo)),.S 5 (.own 5 ([]:List Int).length),.n 1,.x (fun σ=>σ.app 5 1 7 (([]:List Int)++a).length ((([]:List Int)++a).map Qo)),.n 4,.K [2] [5],.ren 5 600] rfl ⟨⟨⟨tt_,rfl⟩,rfl⟩,(Stp.appSB (by_:=8) (zs:=[.I 0]) (e:=3) (e':=3) (z':=1) (by':=8) rfl rfl (Qu hC.n rfl) rfl rfl rfl Qj (by kernel_rfl) (by kernel_rfl) (by kernel_rfl) rfl (by decide) (by decide) (QmN c Qj) rfl Qcb (QeQ Qj))⟩ ?_
 cases h
 exact d1_ rfl rfl ⟨rfl,tt_⟩
def Qce (a:Qi):Option Qi:=
 (Q8 a.Mode.Vars).bind fun b=>
 (Q8 a.Mode.Ins).bind fun c=>
 (Q8 a.Mode.Outs).bind fun d=>
 some (Qi.mk a.Id (QaF.mk a.Mode.Task b c d) a.Batch a.Until)
theorem Qe9 (b){r}(h:Qce b=some r):Qh prog 40 [.agg (Qc b)] [] (Qp (.agg (Qc r)) []):=by
 refine Qh.walk 22 func40 rfl rfl rfl fun C hC=>?_
 obtain⟨c,g,h⟩:=Qf h
 obtain⟨e,i,h⟩:=Qf h
 obtain⟨f,j,h⟩:=Qf h
 refine tg_ hC [.n 7,.K [1,2] [1,2]] rfl ?_
 refine AK.draw2 Qm hC mixed [.N,.N,.N,.a (.cd false [.d] 1 (c.map Qo) c.length) none false,.N,.N,.N,.a (.cd false [.d] 1 (e.map Qo) e.length) none false,.N,.N,.N,.a (.cd false [.d] 1 (f.map Qo) f.length) none false,.N,.N,.m .s,.N,.N,.m .s,.N,.N,.m .s] [] [] [1,2] [1,2] rfl rfl rfl ⟨⟨⟨tt_,⟨(Qbv _ g),Qj⟩⟩,⟨(Qbv _ i),Qj⟩⟩,⟨(Qbv _ j),Qj⟩⟩ rfl (by kernel_rfl) rfl rfl rfl ?_
 refine Qa hC [.O 1 (.var (Qc (Qi.mk b.Id (QaF.mk b.Mode.Task c e f) b.Batch b.Until))),.n 3,.v .no [] (.agg (Qc (Qi.mk b.Id (QaF.mk b.Mode.Task c e f) b.Batch b.Until))),.n 1,.O 2 (.var (Qc (Qi.mk b.Id (QaF.mk b.Mode.Task c e f) b.Batch b.Until))),.n 3,.K [2] [2]] rfl ⟨⟨⟨tt_,rfl⟩,rfl⟩,rfl⟩ ?_
 cases h
 exact AK.done (ex_ [_] (an_ (an_ (ex_ _ (ex_ _ (an_ rfl (an_ rfl (Or.inl (an_ (Qm.ag rfl) (an_ (Qm.sz rfl) rfl))))))) tt_) (Qay tt_)))
def Qeo (b:Int)(a:(List Qi)):Option ((Int×(List Qi))⊕(List Qi)):=
 some (.inl ((w64 (b+1)),a))
def QaW (f:(List Qi))(e:Int)(c:Int)(d:(List Qi)):Option ((Int×(List Qi))⊕(List Qi)):=
 bif (decide (c<(f.length:Int)))then
 (idx f c).bind fun a=>
 bif (a.Id != e)then
 (Qce a).bind fun b=>
 (chk (decide (d.length+([b]:List Qi).length≤4294967296))).bind fun _=>
 Qeo c (d++([b]:List Qi))
 else
 Qeo c d
 else
 some (.inr d)
def Qgb (a:(List Qi)):Option (List Qi):=
 some a
def Qcf (b:(List Qi))(a:Int):Option (List Qi):=
 (QM (fun st=>QaW b a st.1 st.2) (0,([]:List Qi))).bind (fun q=>Qgb q)
theorem Qep (k a){r}(h:Qcf k a=some r):Qh prog 12 [.sl 11 (k.map Qc),.I a] [] (Qp (.own 600 r.length) [(600,.arr 11 (r.map Qc))]):=by
 refine Qh.walk 25 func12 rfl rfl rfl fun C hC=>?_
 refine Qa hC [.n 14,.o (.ln k.length),.n 4,.adopt 5 18 11,.O 18 (.arr 11 (([]:List Qi).map Qc)),.S 5 (.own 18 ([]:List Qi).length),.K [1,5,8,9,10] [18]] rfl ⟨⟨⟨tt_,Qj⟩,rfl⟩,(congrArg (fun n=>V.own 18 n) (by simp))⟩ ?_
 obtain⟨w,l,h⟩:=Qf h
 refine AK.loop (body:=(fun st=>QaW k a st.1 st.2)) (fun st σ=>σ=⟨[(1,.I a),(5,.own 18 st.2.length),(8,.sl 11 (k.map Qc)),(9,.I (k.length:Int)),(10,.I st.1)],[(18,.arr 11 (st.2.map Qc))]⟩) (fun q e σ=>e=.exit 0∧σ=⟨[(5,.own 18 q.length)],[(18,.arr 11 (q.map Qc))]⟩) l rfl ?_ ?_
 ·rintro ⟨t,u⟩ o σ rfl h
  refine tg_ hC [.n 6] rfl ?_
  refine bg_ h (fun b h=>Qa hC [.T,.n 2] rfl ⟨tt_,b⟩ ?_) fun b h=>Qa hC [.F,.n 2,.K [5] [18]] rfl ⟨tt_,b⟩ ?_
  ·refine AK.meet (fun σ=>∃g:(List Qi),σ=⟨[(1,.I a),(5,.own 18 g.length),(8,.sl 11 (k.map Qc)),(9,.I (k.length:Int)),(10,.I t)],[(18,.arr 11 (g.map Qc))]⟩∧Qeo t g=some o) ?_ ?_
   ·obtain⟨i,m,h⟩:=Qf h
    refine Qa hC [.n 3,.o (.row (Qc i)),.v .no [] (.agg (Qc i)),.n 2,.O 7 (.var (Qc i)),.n 10] rfl ⟨⟨⟨tt_,(QaU m)⟩,rfl⟩,rfl⟩ ?_
    rcases QH h with⟨f,h⟩|⟨f,h⟩
    ·obtain⟨j,p,h⟩:=Qf h
     obtain⟨s,h⟩:=Qb3 h
     refine Qa hC [.T,.n 2,.v .no [] (.agg (Qc i)),.o (.c false [.d] (.agg (Qc j))),.v (.bd []) [] (.sl 11 (([j]:List Qi).map Qc)),.app ((u++([j]:List Qi)).map Qc) (u++([j]:List Qi)).length,.n 3,.K [1,5,8,9,10] [18]] rfl ⟨⟨⟨⟨⟨tt_,f⟩,rfl⟩,(Qe9 _ p)⟩,rfl⟩,⟨Qj,Qej s Qj,Qcb,QeQ Qj⟩⟩ ?_
     exact AK.met (ex_ _ (an_ rfl h))
    refine Qa hC [.F,.n 2,.K [1,5,8,9,10] [18]] rfl ⟨tt_,f⟩ ?_
    exact AK.met (ex_ _ (an_ rfl h))
   rintro σ ⟨g,rfl,h⟩
   refine tg_ hC [.n 4,.K [1,5,8,9,10] [18]] rfl ?_
   cases h
   exact QaT rfl rfl
  cases h
  exact QaP rfl (an_ rfl rfl)
 replace h:Qgb w=some r:=h
 rintro e σ ⟨rfl,rfl⟩
 refine tg_ hC [.n 9,.K [4] [18],.ren 18 600] rfl ?_
 cases h
 exact d1_ rfl rfl ⟨rfl,tt_⟩
def Qe7 (a:Qi)(b:Qi):Option Bool:=
 some (decide (b.Id<a.Id))
theorem QiI (c a){r}(h:Qe7 c a=some r):Qh prog 38 [.agg (Qc c),.loc 607 0 0] [(607,.var (Qc a))] (Qp (.b r) [(607,.var (Qc a))]):=by
 refine Qh.walk 9 func38 rfl rfl rfl fun C hC=>?_
 refine tg_ hC [.n 17] rfl ?_
 cases h
 exact d1_ rfl rfl ⟨rfl,tt_⟩
def QB (c:(List Qi))(d:Qi)(a:Int):Option (Int⊕(Int⊕Unit)):=
 bif (decide (a<(c.length:Int)))then
 (idx c a).bind fun e=>
 (Qe7 e d).bind fun b=>
 bif b then
 some (.inr (.inl a))
 else
 some (.inl (w64 (a+1)))
 else
 some (.inr (.inr ()))
def QaY (a:Int):Option Int:=
 some a
def QaZ : Option Int:=
 some (-1)
def Q6 (a:(List Qi))(b:Qi):Option Int:=
 (QM (fun st=>QB a b st) 0).bind (Sum.elim (fun q=>QaY q) (fun q=>QaZ))
theorem QcI (c f){r}(h:Q6 c f=some r):Qh prog 37 [.own 607 c.length,.clo (.func 38) [] [.loc 608 0 0]] [(607,.arr 11 (c.map Qc)),(608,.var (Qc f))] (Qp (.I r) [(607,.arr 11 (c.map Qc)),(608,.var (Qc f))]):=by
 refine Qh.walk 19 func37 rfl rfl rfl fun C hC=>?_
 refine tg_ hC [.n 14,.K [0,1,7,8] [607,608]] rfl ?_
 obtain⟨l,i,h⟩:=Qf h
 refine AK.loop (body:=(fun st=>QB c f st)) (fun st σ=>σ=⟨[(0,.own 607 c.length),(1,.clo (.func 38) [] [.loc 608 0 0]),(7,.I (c.length:Int)),(8,.I st)],[(607,.arr 11 (c.map Qc)),(608,.var (Qc f))]⟩) (Sum.elim (fun q e σ=>e=.ret∧σ=⟨[(4,.I q)],[(607,.arr 11 (c.map Qc)),(608,.var (Qc f))]⟩) (fun q e σ=>e=.exit 0∧σ=⟨[],[(607,.arr 11 (c.map Qc)),(608,.var (Qc f))]⟩)) i rfl ?_ ?_
 ·rintro t o σ rfl h
  refine tg_ hC [.n 6] rfl ?_
  rcases QH h with⟨g,h⟩|⟨g,h⟩
  ·obtain⟨p,j,h⟩:=Qf h
   obtain⟨m,k,h⟩:=Qf h
   refine Qa hC [.T,.n 16,.v (.row (Qc p)) [] (.agg (Qc p)),.cm (.clo) [(607,608)] [(608,607)] [] [.d,.d] [(607,.var (Qc f))] (.b m),.n 2] rfl ⟨⟨⟨⟨⟨tt_,g⟩,(QaV j rfl)⟩,(QJ (Qba j).2)⟩,rfl⟩,(QiI _ _ k)⟩ ?_
   refine bg_ h (fun a h=>Qa hC [.T,.n 9,.K [4] [607,608]] rfl ⟨tt_,a⟩ ?_) fun a h=>Qa hC [.F,.n 7,.K [0,1,7,8] [607,608]] rfl ⟨tt_,a⟩ ?_
   ·cases h
    exact Qgu rfl (an_ rfl rfl)
   cases h
   exact QaT rfl rfl
  refine Qa hC [.F,.n 2,.K [] [607,608]] rfl ⟨tt_,g⟩ ?_
  cases h
  exact QaP rfl (an_ rfl rfl)
 rcases l with(s | _)
 ·replace h:QaY s=some r:=h
  rintro e σ ⟨rfl,rfl⟩
  refine tg_ hC [.n 2] rfl ?_
  cases h
  exact d1_ rfl rfl ⟨rfl,rfl,tt_⟩
 replace h:QaZ=some r:=h
 rintro e σ ⟨rfl,rfl⟩
 refine tg_ hC [.n 8] rfl ?_
 cases h
 exact d1_ rfl rfl ⟨rfl,rfl,tt_⟩
def QO (l:(List Qi))(i:Int)(m:(List Qi)):Option (List Qi):=match m with
 | [u]=>(chk (decide (0≤i)&&decide (i.toNat≤l.length)&&decide (l.length+1≤4294967296))).bind fun _=>some (l.take i.toNat++u::l.drop i.toNat)
 | _=>none
theorem Qdb (l i m){r}(h:QO l i m=some r):Qh prog 39 [.own 605 l.length,.I i,.own 606 m.length] [(605,.arr 11 (l.map Qc)),(606,.arr 11 (m.map Qc))] (Qp (.own 605 r.length) [(605,.arr 11 (r.map Qc))]):=by
 unfold QO at h
 split at h
 ·rename_i u
  obtain⟨_,a,h⟩:=Qf h
  replace a:=QmX a
  simp only [Qr,QdP]at a
  cases h
  have:=Qkz Qls (l.map Qc) (Qc u) i a.1.1 (by rw [QfZ];exact a.1.2) (by rw [QfZ];exact a.2)
  rw [←List.map_take,←List.map_drop,←Qb7,←List.map_append,QfZ,QfZ]at this
  exact this
 cases h
def Qdm (a:Qi)(b:(List Qi))(at_6:Int):Option (List Qi):=
 (Qce a).bind fun c=>
 (QO b at_6 ([c]:List Qi)).bind fun d=>
 some d
def Qb4 (d:(List Qi))(a:Qi):Option (List Qi):=
 (Qcf d a.Id).bind fun b=>
 (Q6 b a).bind fun c=>
 bif (decide (c<0))then
 Qdm a b (b.length:Int)
 else
 Qdm a b c
theorem Qdn (l b){r}(h:Qb4 l b=some r):Qh prog 11 [.sl 11 (l.map Qc),.agg (Qc b)] [] (Qp (.own 600 r.length) [(600,.arr 11 (r.map Qc))]):=by
 refine Qh.walk 24 func11 rfl rfl rfl fun C hC=>?_
 obtain⟨e,f,h⟩:=Qf h
 obtain⟨p,g,h⟩:=Qf h
 refine Qa hC [.n 11,.o (.co false [.d,.d] 11 (e.map Qc) e.length),.n 7,.cm (.fn) [(607,10),(608,3)] [(10,607),(3,608)] [] [.d,.d] [(607,.arr 11 (e.map Qc)),(608,.var (Qc b))] (.I p),.n 3] rfl ⟨⟨tt_,⟨(Qep _ _ f),Qj,.inl rfl⟩⟩,(QcI _ _ g)⟩ ?_
 refine AK.meet (fun σ=>∃at_6:Int,σ=⟨[(3,.loc 3 0 0),(5,.own 10 e.length),(6,.I at_6)],[(3,.var (Qc b)),(10,.arr 11 (e.map Qc))]⟩∧Qdm b e at_6=some r) ?_ ?_
 ·refine tg_ hC [.n 6] rfl ?_
  refine bg_ h (fun a h=>Qa hC [.T,.n 5,.K [3,5,6] [3,10]] rfl ⟨tt_,a⟩ ?_) fun a h=>Qa hC [.F,.n 1,.K [3,5,6] [3,10]] rfl ⟨tt_,a⟩ ?_
  ·exact AK.met (ex_ _ (an_ rfl h))
  exact AK.met (ex_ _ (an_ rfl h))
 rintro σ ⟨at_6,rfl,h⟩
 obtain⟨i,j,h⟩:=Qf h
 obtain⟨m,k,h⟩:=Qf h
 refine Qa hC [.n 4,.v .no [] (.agg (Qc b)),.o (.c false [.d] (.agg (Qc i))),.n 1,.O 22 (.arr 11 (([i]:List Qi).map Qc)),.S 22 (.own 22 ([i]:List Qi).length),.cm (.fn) [(605,10),(606,22)] [(10,605)] [10,22] [.d,.d,.d] [(605,.arr 11 (m.map Qc))] (.own 605 m.length),.n 4,.K [4] [10],.ren 10 600] rfl ⟨⟨⟨⟨⟨tt_,rfl⟩,(Qe9 _ j)⟩,rfl⟩,rfl⟩,(Qdb _ _ _ k)⟩ ?_
 cases h
 exact d1_ rfl rfl ⟨rfl,tt_⟩
def QgN (c:Int)(a:Int)(b:(List Int)):Option ((Int×(List Int))⊕(List Int)):=
 bif (decide (0≤a))then
 (chk (decide (0≤(w64 (8*a))))).bind fun _=>
 (chk (decide (b.length+([(IntKind.u8.wrap (Qdw .u64 (IntKind.u64.wrap c) (w64 (8*a))))]:List Int).length≤4294967296))).bind fun _=>
 some (.inl ((w64 (a-1)),(b++([(IntKind.u8.wrap (Qdw .u64 (IntKind.u64.wrap c) (w64 (8*a))))]:List Int))))
 else
 some (.inr b)
def QgO (b:Int)(a:(List Int)):Option ((Int×(List Int))⊕(List Int)):=
 some (.inl ((w64 (b+1)),a))
def QgP (c:(List Int))(a:Int)(d:(List Int)):Option ((Int×(List Int))⊕(List Int)):=
 bif (decide (a<(c.length:Int)))then
 (idx c a).bind fun b=>
 (QM (fun st=>QgN b st.1 st.2) (7,d)).bind (fun q=>QgO a q)
 else
 some (.inr d)
def QgQ (a:(List Int)):Option (List Int):=
 some a
def QgA (a:(List Int)):Option (List Int):=
 (QM (fun st=>QgP a st.1 st.2) (0,([]:List Int))).bind (fun q=>QgQ q)
theorem QgR (d){r}(h:QgA d=some r):Qh prog 56 [.lit (.slice none 0 0),.sl 1 (d.map Qo)] [] (Qp (.own 600 r.length) [(600,.arr 1 (r.map Qn))]):=by
 refine Qh.walk 29 func56 rfl rfl rfl fun C hC=>?_
 refine Qa hC [.n 9,.o (.ln d.length),.n 4,.adopt 0 18 1,.O 18 (.arr 1 (([]:List Int).map Qn)),.S 0 (.own 18 ([]:List Int).length),.K [0,8,9,10] [18]] rfl ⟨⟨⟨tt_,Qj⟩,rfl⟩,(congrArg (fun n=>V.own 18 n) (by simp))⟩ ?_
 obtain⟨x,j,h⟩:=Qf h
 refine AK.loop (body:=(fun st=>QgP d st.1 st.2)) (fun st σ=>σ=⟨[(0,.own 18 st.2.length),(8,.sl 1 (d.map Qo)),(9,.I (d.length:Int)),(10,.I st.1)],[(18,.arr 1 (st.2.map Qn))]⟩) (fun q e σ=>e=.exit 0∧σ=⟨[(0,.own 18 q.length)],[(18,.arr 1 (q.map Qn))]⟩) j rfl ?_ ?_
 ·rintro ⟨t,y⟩ o σ rfl h
  refine tg_ hC [.n 6] rfl ?_
  rcases QH h with⟨f,h⟩|⟨f,h⟩
  ·obtain⟨a,k,h⟩:=Qf h
   refine Qa hC [.T,.n 6,.o (.row (Qo a)),.n 10,.K [0,6,7,8,9,10] [18]] rfl ⟨⟨tt_,f⟩,(QaU k)⟩ ?_
   obtain⟨u,l,h⟩:=Qf h
   refine AK.loop (body:=(fun st=>QgN a st.1 st.2)) (fun st σ=>σ=⟨[(0,.own 18 st.2.length),(6,.I a),(7,.I st.1),(8,.sl 1 (d.map Qo)),(9,.I (d.length:Int)),(10,.I t)],[(18,.arr 1 (st.2.map Qn))]⟩) (fun q e σ=>e=.exit 2∧σ=⟨[(0,.own 18 q.length),(8,.sl 1 (d.map Qo)),(9,.I (d.length:Int)),(10,.I t)],[(18,.arr 1 (q.map Qn))]⟩) l rfl ?_ ?_
   ·rintro ⟨b,m⟩ o σ rfl h
    refine tg_ hC [.n 7] rfl ?_
    rcases QH h with⟨c,h⟩|⟨c,h⟩
    ·obtain⟨p,h⟩:=Qb3 h
     obtain⟨s,h⟩:=Qb3 h
     refine Qa hC [.T,.n 7,.o (.any (.i .u64 (IntKind.u64.wrap a)) none),.n 2,.o (.any (.i .u64 (Qdw .u64 (IntKind.u64.wrap a) (w64 (8*b)))) none),.o (.any (.i .u8 (IntKind.u8.wrap (Qdw .u64 (IntKind.u64.wrap a) (w64 (8*b))))) none),.v (.bd []) [] (.sl 1 (([(IntKind.u8.wrap (Qdw .u64 (IntKind.u64.wrap a) (w64 (8*b))))]:List Int).map Qn)),.app ((m++([(IntKind.u8.wrap (Qdw .u64 (IntKind.u64.wrap a) (w64 (8*b))))]:List Int)).map Qn) (m++([(IntKind.u8.wrap (Qdw .u64 (IntKind.u64.wrap a) (w64 (8*b))))]:List Int)).length,.n 9,.K [0,6,7,8,9,10] [18]] rfl ⟨⟨⟨⟨⟨⟨tt_,c⟩,(fun σ g w _=>Stp.convI rfl rfl (Qu hC.n rfl) (g _ _ rfl) Qmp QgM)⟩,(fun σ g w _=>Stp.shr rfl rfl (Qu hC.n rfl) (g _ _ rfl) (g _ _ rfl) (Qa3 p))⟩,(fun σ g w _=>Stp.convI rfl rfl (Qu hC.n rfl) (g _ _ rfl) QgM Qmq)⟩,rfl⟩,⟨Qj,Qej s Qj,Qcb,QeQ Qj⟩⟩ ?_
     cases h
     exact QaT rfl rfl
    refine Qa hC [.F,.n 2,.K [0,8,9,10] [18]] rfl ⟨tt_,c⟩ ?_
    cases h
    exact QaP rfl (an_ rfl rfl)
   replace h:QgO t u=some o:=h
   rintro e σ ⟨rfl,rfl⟩
   refine tg_ hC [.n 7,.K [0,8,9,10] [18]] rfl ?_
   cases h
   exact QaT rfl rfl
  refine Qa hC [.F,.n 2,.K [0] [18]] rfl ⟨tt_,f⟩ ?_
  cases h
  exact QaP rfl (an_ rfl rfl)
 replace h:QgQ x=some r:=h
 rintro e σ ⟨rfl,rfl⟩
 refine tg_ hC [.n 9,.K [4] [18],.ren 18 600] rfl ?_
 cases h
 exact d1_ rfl rfl ⟨rfl,tt_⟩
def Qfa (c:Int)(a:Int)(b:(List Int)):Option ((Int×(List Int))⊕(List Int)):=
 bif (decide (0≤a))then
 (chk (decide (0≤(w64 (8*a))))).bind fun _=>
 (chk (decide (b.length+([(IntKind.u8.wrap (Qdw .u64 (IntKind.u64.wrap c) (w64 (8*a))))]:List Int).length≤4294967296))).bind fun _=>
 some (.inl ((w64 (a-1)),(b++([(IntKind.u8.wrap (Qdw .u64 (IntKind.u64.wrap c) (w64 (8*a))))]:List Int))))
 else
 some (.inr b)
def Qfb (b:Int)(a:(List Int)):Option ((Int×(List Int))⊕(List Int)):=
 some (.inl ((w64 (b+1)),a))
def Qfc (c:(List Int))(a:Int)(d:(List Int)):Option ((Int×(List Int))⊕(List Int)):=
 bif (decide (a<(c.length:Int)))then
 (idx c a).bind fun b=>
 (QM (fun st=>Qfa b st.1 st.2) (7,d)).bind (fun q=>Qfb a q)
 else
 some (.inr d)
def Qfd (a:(List Int)):Option (List Int):=
 some a
def Qag (a:(List Int))(b:(List Int)):Option (List Int):=
 (QM (fun st=>Qfc b st.1 st.2) (0,a)).bind (fun q=>Qfd q)
theorem QY (t f){r}(h:Qag t f=some r):Qh prog 56 [.own 605 t.length,.sl 1 (f.map Qo)] [(605,.arr 1 (t.map Qn))] (Qp (.own 605 r.length) [(605,.arr 1 (r.map Qn))]):=by
 refine Qh.walk 29 func56 rfl rfl rfl fun C hC=>?_
 refine Qa hC [.n 9,.o (.ln f.length),.n 4,.K [0,8,9,10] [605]] rfl ⟨tt_,Qj⟩ ?_
 obtain⟨y,j,h⟩:=Qf h
 refine AK.loop (body:=(fun st=>Qfc f st.1 st.2)) (fun st σ=>σ=⟨[(0,.own 605 st.2.length),(8,.sl 1 (f.map Qo)),(9,.I (f.length:Int)),(10,.I st.1)],[(605,.arr 1 (st.2.map Qn))]⟩) (fun q e σ=>e=.exit 0∧σ=⟨[(0,.own 605 q.length)],[(605,.arr 1 (q.map Qn))]⟩) j rfl ?_ ?_
 ·rintro ⟨u,z⟩ o σ rfl h
  refine tg_ hC [.n 6] rfl ?_
  rcases QH h with⟨b,h⟩|⟨b,h⟩
  ·obtain⟨a,k,h⟩:=Qf h
   refine Qa hC [.T,.n 6,.o (.row (Qo a)),.n 10,.K [0,6,7,8,9,10] [605]] rfl ⟨⟨tt_,b⟩,(QaU k)⟩ ?_
   obtain⟨w,l,h⟩:=Qf h
   refine AK.loop (body:=(fun st=>Qfa a st.1 st.2)) (fun st σ=>σ=⟨[(0,.own 605 st.2.length),(6,.I a),(7,.I st.1),(8,.sl 1 (f.map Qo)),(9,.I (f.length:Int)),(10,.I u)],[(605,.arr 1 (st.2.map Qn))]⟩) (fun q e σ=>e=.exit 2∧σ=⟨[(0,.own 605 q.length),(8,.sl 1 (f.map Qo)),(9,.I (f.length:Int)),(10,.I u)],[(605,.arr 1 (q.map Qn))]⟩) l rfl ?_ ?_
   ·rintro ⟨c,m⟩ o σ rfl h
    refine tg_ hC [.n 7] rfl ?_
    rcases QH h with⟨d,h⟩|⟨d,h⟩
    ·obtain⟨p,h⟩:=Qb3 h
     obtain⟨s,h⟩:=Qb3 h
     refine Qa hC [.T,.n 7,.o (.any (.i .u64 (IntKind.u64.wrap a)) none),.n 2,.o (.any (.i .u64 (Qdw .u64 (IntKind.u64.wrap a) (w64 (8*c)))) none),.o (.any (.i .u8 (IntKind.u8.wrap (Qdw .u64 (IntKind.u64.wrap a) (w64 (8*c))))) none),.v (.bd []) [] (.sl 1 (([(IntKind.u8.wrap (Qdw .u64 (IntKind.u64.wrap a) (w64 (8*c))))]:List Int).map Qn)),.app ((m++([(IntKind.u8.wrap (Qdw .u64 (IntKind.u64.wrap a) (w64 (8*c))))]:List Int)).map Qn) (m++([(IntKind.u8.wrap (Qdw .u64 (IntKind.u64.wrap a) (w64 (8*c))))]:List Int)).length,.n 9,.K [0,6,7,8,9,10] [605]] rfl ⟨⟨⟨⟨⟨⟨tt_,d⟩,(fun σ g x _=>Stp.convI rfl rfl (Qu hC.n rfl) (g _ _ rfl) Qmp QgM)⟩,(fun σ g x _=>Stp.shr rfl rfl (Qu hC.n rfl) (g _ _ rfl) (g _ _ rfl) (Qa3 p))⟩,(fun σ g x _=>Stp.convI rfl rfl (Qu hC.n rfl) (g _ _ rfl) QgM Qmq)⟩,rfl⟩,⟨Qj,Qej s Qj,Qcb,QeQ Qj⟩⟩ ?_
     cases h
     exact QaT rfl rfl
    refine Qa hC [.F,.n 2,.K [0,8,9,10] [605]] rfl ⟨tt_,d⟩ ?_
    cases h
    exact QaP rfl (an_ rfl rfl)
   replace h:Qfb u w=some o:=h
   rintro e σ ⟨rfl,rfl⟩
   refine tg_ hC [.n 7,.K [0,8,9,10] [605]] rfl ?_
   cases h
   exact QaT rfl rfl
  refine Qa hC [.F,.n 2,.K [0] [605]] rfl ⟨tt_,b⟩ ?_
  cases h
  exact QaP rfl (an_ rfl rfl)
 replace h:Qfd y=some r:=h
 rintro e σ ⟨rfl,rfl⟩
 refine tg_ hC [.n 9] rfl ?_
 cases h
 exact d1_ rfl rfl ⟨rfl,tt_⟩
def Qiy (a:(List Int))(b:Int):Option (List Int):=
 (Qag a ([b]:List Int)).bind fun c=>
 some c
theorem Qjw (a b){r}(h:Qiy a b=some r):Qh prog 95 [.own 605 a.length,.I b] [(605,.arr 1 (a.map Qn))] (Qp (.own 605 r.length) [(605,.arr 1 (r.map Qn))]):=by
 refine Qh.walk 9 func95 rfl rfl rfl fun C hC=>?_
 obtain⟨e,c,h⟩:=Qf h
 refine Qa hC [.n 9,.v (.bd []) [] (.sl 1 (([b]:List Int).map Qo)),.cm (.fn) [(605,605)] [(605,605)] [605] [.d,.d] [(605,.arr 1 (e.map Qn))] (.own 605 e.length),.n 4] rfl ⟨⟨tt_,rfl⟩,(QY _ _ c)⟩ ?_
 cases h
 exact d1_ rfl rfl ⟨rfl,tt_⟩
def QeX (d:(List Int))(a:Int)(e:(List Int)):Option ((Int×(List Int))⊕(List Int)):=
 bif (decide (a<(d.length:Int)))then
 (idx d a).bind fun b=>
 (Qiy e b).bind fun c=>
 some (.inl ((w64 (a+1)),c))
 else
 some (.inr e)
def QeY (a:(List Int)):Option (List Int):=
 some a
def Qc0 (b:(List Int))(a:(List Int)):Option (List Int):=
 (Qag b ([(a.length:Int)]:List Int)).bind fun c=>
 (QM (fun st=>QeX a st.1 st.2) (0,c)).bind (fun q=>QeY q)
theorem Qdc (j b){r}(h:Qc0 j b=some r):Qh prog 94 [.own 605 j.length,.sl 1 (b.map Qo),.clo (.func 95) [] []] [(605,.arr 1 (j.map Qn))] (Qp (.own 605 r.length) [(605,.arr 1 (r.map Qn))]):=by
 refine Qh.walk 26 func94 rfl rfl rfl fun C hC=>?_
 obtain⟨p,k,h⟩:=Qf h
 refine Qa hC [.n 9,.o (.ln b.length),.v (.bd []) [] (.sl 1 (([(b.length:Int)]:List Int).map Qo)),.cm (.fn) [(605,605)] [(605,605)] [605] [.d,.d] [(605,.arr 1 (p.map Qn))] (.own 605 p.length),.n 7,.o (.ln b.length),.n 4,.K [0,2,14,15,16] [605]] rfl ⟨⟨⟨⟨tt_,Qj⟩,rfl⟩,(QY _ _ k)⟩,Qj⟩ ?_
 obtain⟨l,c,h⟩:=Qf h
 refine AK.loop (body:=(fun st=>QeX b st.1 st.2)) (fun st σ=>σ=⟨[(0,.own 605 st.2.length),(2,.clo (.func 95) [] []),(14,.sl 1 (b.map Qo)),(15,.I (b.length:Int)),(16,.I st.1)],[(605,.arr 1 (st.2.map Qn))]⟩) (fun q e σ=>e=.exit 0∧σ=⟨[(0,.own 605 q.length)],[(605,.arr 1 (q.map Qn))]⟩) c rfl ?_ ?_
 ·rintro ⟨s,t⟩ o σ rfl h
  refine tg_ hC [.n 6] rfl ?_
  rcases QH h with⟨a,h⟩|⟨a,h⟩
  ·obtain⟨m,f,h⟩:=Qf h
   obtain⟨g,i,h⟩:=Qf h
   refine Qa hC [.T,.n 6,.o (.row (Qo m)),.n 8,.cm (.clo) [(605,605)] [(605,605)] [605] [.d,.d] [(605,.arr 1 (g.map Qn))] (.own 605 g.length),.n 8,.K [0,2,14,15,16] [605]] rfl ⟨⟨⟨tt_,a⟩,(QaU f)⟩,(Qjw _ _ i)⟩ ?_
   cases h
   exact QaT rfl rfl
  refine Qa hC [.F,.n 2,.K [0] [605]] rfl ⟨tt_,a⟩ ?_
  cases h
  exact QaP rfl (an_ rfl rfl)
 replace h:QeY l=some r:=h
 rintro e σ ⟨rfl,rfl⟩
 refine tg_ hC [.n 9] rfl ?_
 cases h
 exact d1_ rfl rfl ⟨rfl,tt_⟩
def QfJ (b:(List Int))(a:QaF):Option (List Int):=
 (Qag b ([a.Task]:List Int)).bind fun c=>
 (Qc0 c a.Vars).bind fun d=>
 (Qc0 d a.Ins).bind fun e=>
 (Qc0 e a.Outs).bind fun f=>
 some f
theorem Qgc (b c){r}(h:QfJ b c=some r):Qh prog 61 [.own 605 b.length,.agg (Qaw c)] [(605,.arr 1 (b.map Qn))] (Qp (.own 605 r.length) [(605,.arr 1 (r.map Qn))]):=by
 refine Qh.walk 19 func61 rfl rfl rfl fun C hC=>?_
 obtain⟨j,e,h⟩:=Qf h
 obtain⟨k,f,h⟩:=Qf h
 obtain⟨l,g,h⟩:=Qf h
 obtain⟨o,i,h⟩:=Qf h
 refine tg_ hC [.n 7,.K [0,3,4] [3,605]] rfl ?_
 refine AK.draw2 Qm hC mixed [.N,.N,.N,.a (.bd []) (some ([],.sl 1 (([c.Task]:List Int).map Qo))) false,.m (.cm (.fn) [(605,605)] [(605,605)] [605] [.d,.d] [(605,.arr 1 (j.map Qn))] (.own 605 j.length) []),.a .no none true,.a .no none true,.m (.cm (.fn) [(605,605)] [(605,605)] [605] [.d,.d,.d] [(605,.arr 1 (k.map Qn))] (.own 605 k.length) []),.a .no none true,.a .no none true,.m (.cm (.fn) [(605,605)] [(605,605)] [605] [.d,.d,.d] [(605,.arr 1 (l.map Qn))] (.own 605 l.length) []),.a .no none true,.a .no none true,.m (.cm (.fn) [(605,605)] [(605,605)] [605] [.d,.d,.d] [(605,.arr 1 (o.map Qn))] (.own 605 o.length) []),.m .s] [3,4] [3] [4] [605] rfl rfl rfl ⟨⟨⟨⟨⟨tt_,rfl⟩,⟨tt_,(QY _ _ e)⟩⟩,⟨tt_,(Qdc _ _ f)⟩⟩,⟨tt_,(Qdc _ _ g)⟩⟩,⟨tt_,(Qdc _ _ i)⟩⟩ rfl (by kernel_rfl) rfl rfl rfl ?_
 refine tg_ hC [.n 2] rfl ?_
 cases h
 exact d1_ rfl rfl ⟨rfl,tt_⟩
def QeZ (a:Qbg):Option (List Int):=
 (QgA ([a.Do,a.Id]:List Int)).bind fun b=>
 (QfJ b a.Mode).bind fun c=>
 (Qag c ([a.Num]:List Int)).bind fun d=>
 some d
theorem QgS (b){r}(h:QeZ b=some r):Qh prog 26 [.agg (QN b)] [] (Qp (.own 600 r.length) [(600,.arr 1 (r.map Qn))]):=by
 refine Qh.walk 16 func26 rfl rfl rfl fun C hC=>?_
 obtain⟨g,c,h⟩:=Qf h
 obtain⟨i,e,h⟩:=Qf h
 obtain⟨j,f,h⟩:=Qf h
 refine tg_ hC [.n 7,.K [1,2] [1]] rfl ?_
 refine AK.draw2 Qm hC mixed [.N,.N,.N,.N,.a (.bd []) (some ([],.sl 1 (([b.Do,b.Id]:List Int).map Qo))) false,.m (.cm (.fn) [] [(8,600)] [8] [.d,.d] [(600,.arr 1 (g.map Qn))] (.own 600 g.length) []),.a .no none true,.a .no (some ([],.agg (Qaw b.Mode))) true,.m (.cm (.fn) [(605,8)] [(8,605)] [8] [.d,.d] [(605,.arr 1 (i.map Qn))] (.own 605 i.length) []),.a .no none true,.a .no none true,.a (.bd []) (some ([],.sl 1 (([b.Num]:List Int).map Qo))) true,.m (.cm (.fn) [(605,8)] [(8,605)] [8] [.d,.d] [(605,.arr 1 (j.map Qn))] (.own 605 j.length) []),.m .s] [1,2] [1] [2] [8] rfl rfl rfl ⟨⟨⟨⟨⟨⟨tt_,rfl⟩,⟨tt_,(QgR _ c)⟩⟩,rfl⟩,⟨tt_,(Qgc _ _ e)⟩⟩,rfl⟩,⟨tt_,(QY _ _ f)⟩⟩ rfl (by kernel_rfl) rfl rfl rfl ?_
 refine tg_ hC [.n 2,.K [2] [8],.ren 8 600] rfl ?_
 cases h
 exact d1_ rfl rfl ⟨rfl,tt_⟩
def QgT (a:Qd):Option Qd:=
 bif a.bad then
 some (Qd.mk a.b true)
 else
 some (Qd.mk a.b (decide ((a.b.length:Int)<8)))
def Qd0 (e:Qd)(c:Int)(a:Int):Option ((Int×Int)⊕Int):=
 bif (decide (a<(((e.b.drop 0).take (8-0)).length:Int)))then
 (idx ((e.b.drop 0).take (8-0)) a).bind fun d=>
 some (.inl ((orI .u64 (Qkv .u64 c 8) (IntKind.u64.wrap d)),(w64 (a+1))))
 else
 some (.inr c)
def Qd1 (a:Qd)(c:Int):Option (Int×Qd):=
 (chk (decide (0≤8)&&decide (8≤a.b.length)&&decide (a.b.length≤a.b.length))).bind fun _=>
 some ((w64 c),(Qd.mk ((a.b.drop 8).take (a.b.length-8)) a.bad))
def Qcg (a:Qd):Option (Int×Qd):=
 bif a.bad then
 some (0,a)
 else
 (chk (decide (0≤8)&&decide (0≤8)&&decide (8≤a.b.length))).bind fun _=>
 (QM (fun st=>Qd0 a st.1 st.2) (0,0)).bind (fun q=>Qd1 a q)
def Qt (a:Qd):Option (Int×Qd):=
 (QgT a).bind (fun b=>Qcg b)
theorem Qq (m){r}(h:Qt m=some r):Qh prog 98 [.loc 607 0 0] [(607,.var (Qb m))] (Qp (.I r.1) [(607,.var (Qb r.2))]):=by
 refine Qh.walk 51 func98 rfl rfl rfl fun C hC=>?_
 refine tg_ hC [.n 7] rfl ?_
 obtain⟨a,w,h⟩:=Qf h
 replace h:Qcg a=some r:=h
 refine AK.meetX (fun σ=>σ=⟨[(0,.loc 607 0 0)],[(607,.var (Qb a))]⟩) ?_ ?_
 ·replace h:=w
  refine tg_ hC [.n 7] rfl ?_
  refine bg_ h (fun j h=>Qa hC [.S 11 (.b true),.n 10,.O 607 (.var (Qb (Qd.mk m.b true))),.n 1,.K [0] [607]] rfl ⟨(tc_ j),rfl⟩ ?_) fun j h=>Qa hC [.S 11 (.b false),.n 4,.o (.ln m.b.length),.n 5,.O 607 (.var (Qb (Qd.mk m.b (decide ((m.b.length:Int)<8))))),.n 1,.K [0] [607]] rfl ⟨⟨(tc_ j),Qj⟩,rfl⟩ ?_
  ·cases h
   exact AK.met rfl
  cases h
  exact AK.met rfl
 rintro σ rfl
 replace h:Qcg a=some r:=h
 refine tg_ hC [.n 9] rfl ?_
 rcases QH h with⟨k,h⟩|⟨k,h⟩
 ·refine Qa hC [.T,.n 7] rfl ⟨tt_,k⟩ ?_
  cases h
  exact d1_ rfl rfl ⟨rfl,tt_⟩
 obtain⟨d,h⟩:=Qb3 h
 refine Qa hC [.F,.n 14,.o (.any (.sl 1 (((a.b.drop 0).take (8-0)).map Qn)) none),.o (.ln ((a.b.drop 0).take (8-0)).length),.n 4,.K [0,3,29,30,31] [607]] rfl ⟨⟨⟨tt_,k⟩,(fun σ c p _=>Stp.sliceD rfl rfl (Qu hC.n rfl) (c _ _ rfl) (Qm.es rfl) Bnd.no (Bnd.val (c _ _ rfl) (Qa3 (Qkl d)) rfl) (Qa3 (Qkm d)) (Qbe (Qa3 (Qm0 d)) (Nat.le_of_eq Qj.symm)) Qln)⟩,Qj⟩ ?_
 obtain⟨s,t,h⟩:=Qf h
 refine AK.loop (body:=(fun st=>Qd0 a st.1 st.2)) (fun st σ=>σ=⟨[(0,.loc 607 0 0),(3,.i .u64 st.1),(29,.sl 1 (((a.b.drop 0).take (8-0)).map Qn)),(30,.I (((a.b.drop 0).take (8-0)).length:Int)),(31,.I st.2)],[(607,.var (Qb a))]⟩) (fun q e σ=>e=.exit 0∧σ=⟨[(0,.loc 607 0 0),(3,.i .u64 q)],[(607,.var (Qb a))]⟩) t rfl ?_ ?_
 ·rintro ⟨u,x⟩ o σ rfl h
  refine tg_ hC [.n 6] rfl ?_
  rcases QH h with⟨f,h⟩|⟨f,h⟩
  ·obtain⟨l,v,h⟩:=Qf h
   refine Qa hC [.T,.n 6,.o (.row (Qn l)),.n 6,.o (.any (.i .u64 (Qkv .u64 u 8)) none),.n 1,.o (.any (.i .u64 (IntKind.u64.wrap l)) none),.o (.any (.i .u64 (orI .u64 (Qkv .u64 u 8) (IntKind.u64.wrap l))) none),.n 8,.K [0,3,29,30,31] [607]] rfl ⟨⟨⟨⟨⟨tt_,f⟩,(QaU v)⟩,(fun σ c p _=>Stp.shl rfl rfl (Qu hC.n rfl) (c _ _ rfl) (c _ _ rfl) (by decide))⟩,(fun σ c p _=>Stp.convI rfl rfl (Qu hC.n rfl) (c _ _ rfl) Qmq QgM)⟩,(fun σ c p _=>Stp.orB rfl rfl (Qu hC.n rfl) (c _ _ rfl) (c _ _ rfl))⟩ ?_
   cases h
   exact QaT rfl rfl
  refine Qa hC [.F,.n 2,.K [0,3] [607]] rfl ⟨tt_,f⟩ ?_
  cases h
  exact QaP rfl (an_ rfl rfl)
 replace h:Qd1 a s=some r:=h
 rintro e σ ⟨rfl,rfl⟩
 obtain⟨g,h⟩:=Qb3 h
 refine Qa hC [.n 9,.o (.any (.sl 1 (((a.b.drop 8).take (a.b.length-8)).map Qn)) none),.n 3,.O 607 (.var (Qb (Qd.mk ((a.b.drop 8).take (a.b.length-8)) a.bad))),.n 5,.o (.any (.I (w64 s)) none),.n 4] rfl ⟨⟨⟨tt_,(fun σ c p _=>Stp.sliceD rfl rfl (Qu hC.n rfl) (c _ _ rfl) (Qm.es rfl) (Bnd.val (c _ _ rfl) (Qa3 (Qkl g)) rfl) (Bnd.none_ Qj) (Qa3 (Qkm g)) (Nat.le_of_eq Qj.symm) Qln)⟩,rfl⟩,(fun σ c p _=>Stp.convI rfl rfl (Qu hC.n rfl) (c _ _ rfl) QgM Qmp)⟩ ?_
 cases h
 exact d1_ rfl rfl ⟨rfl,tt_⟩
def QeC (c:Qd)(f:Int)(g:Int)(d:Int)(e:Int):Option (Qd×Qbg):=
 (Qt c).bind fun b=>
 (Qt b.2).bind fun a=>
 some (a.2,(Qbg.mk b.1 a.1 (QaF.mk d ([]:List Int) ([]:List Int) ([]:List Int)) e))
theorem QgB (m p j c e){r}(h:QeC m p j c e=some r):Qh prog 67 [.loc 607 0 0,.own 608 2] [(607,.var (Qb m)),(608,.var [.loc 609 0 0,.loc 609 0 1]),(609,.var [.I p,.I j,.I c,.lit (.slice none 0 0),.lit (.slice none 0 0),.lit (.slice none 0 0),.I e])] (Qp (.tup []) [(607,.var (Qb r.1)),(608,.var [.loc 609 0 0,.loc 609 0 1]),(609,.var (QN r.2))]):=by
 refine Qh.walk 17 func67 rfl rfl rfl fun C hC=>?_
 refine tg_ hC [.n 8] rfl ?_
 refine AK.loopN 3 (AK.rnd ?_)
 obtain⟨f,k,h⟩:=Qf h
 refine Qa hC [.n 2,.v .no [] (.b true),.n 10,.o (.any (.loc 608 0 0) none),.n 7,.cm (.fn) [(607,607)] [(607,607)] [] [.d] [(607,.var (Qb f.2))] (.I f.1),.n 2,.O 609 (.var [.I f.1,.I j,.I c,.lit (.slice none 0 0),.lit (.slice none 0 0),.lit (.slice none 0 0),.I e]),.n 4,.v .no [] (.I 1),.n 2] rfl ⟨⟨⟨⟨⟨tt_,rfl⟩,(fun σ g l _=>Stp.idxV rfl rfl (Qu hC.n rfl) (g _ _ rfl) (g _ _ rfl) (Qm.es rfl) (l _ _ rfl) (by decide))⟩,(Qq _ k)⟩,rfl⟩,rfl⟩ ?_
 refine AK.met (AK.rnd ?_)
 obtain⟨a,i,h⟩:=Qf h
 refine Qa hC [.n 2,.v .no [] (.b true),.n 10,.o (.any (.loc 608 0 1) none),.n 7,.cm (.fn) [(607,607)] [(607,607)] [] [.d] [(607,.var (Qb a.2))] (.I a.1),.n 2,.O 609 (.var [.I f.1,.I a.1,.I c,.lit (.slice none 0 0),.lit (.slice none 0 0),.lit (.slice none 0 0),.I e]),.n 4,.v .no [] (.I 2),.n 2] rfl ⟨⟨⟨⟨⟨tt_,rfl⟩,(fun σ g l _=>Stp.idxV rfl rfl (Qu hC.n rfl) (g _ _ rfl) (g _ _ rfl) (Qm.es rfl) (l _ _ rfl) (by decide))⟩,(Qq _ i)⟩,rfl⟩,rfl⟩ ?_
 refine AK.met (AK.rnd ?_)
 refine Qa hC [.n 2,.v .no [] (.b false),.n 8,.denilO 609 [none,none,none,some 1,some 1,some 1,none],.O 609 (.var (QN (Qbg.mk f.1 a.1 (QaF.mk c ([]:List Int) ([]:List Int) ([]:List Int)) e))),.K [] [607,608,609]] rfl ⟨⟨tt_,rfl⟩,rfl⟩ ?_
 cases h
 refine AK.done ?_
 exact ex_ [] (an_ tt_ (Qay ⟨rfl,rfl,rfl,tt_⟩))
def QdB (b:Qd)(c:Int):Option (Qd×QaF):=
 (Qt b).bind fun a=>
 some (a.2,(QaF.mk a.1 ([]:List Int) ([]:List Int) ([]:List Int)))
theorem Qfo (e f){r}(h:QdB e f=some r):Qh prog 67 [.loc 607 0 0,.own 608 1] [(607,.var (Qb e)),(608,.var [.loc 609 0 0]),(609,.var [.I f,.lit (.slice none 0 0),.lit (.slice none 0 0),.lit (.slice none 0 0)])] (Qp (.tup []) [(607,.var (Qb r.1)),(608,.var [.loc 609 0 0]),(609,.var (Qaw r.2))]):=by
 refine Qh.walk 17 func67 rfl rfl rfl fun C hC=>?_
 refine tg_ hC [.n 8] rfl ?_
 refine AK.loopN 2 (AK.rnd ?_)
 obtain⟨a,c,h⟩:=Qf h
 refine Qa hC [.n 2,.v .no [] (.b true),.n 10,.o (.any (.loc 608 0 0) none),.n 7,.cm (.fn) [(607,607)] [(607,607)] [] [.d] [(607,.var (Qb a.2))] (.I a.1),.n 2,.O 609 (.var [.I a.1,.lit (.slice none 0 0),.lit (.slice none 0 0),.lit (.slice none 0 0)]),.n 4,.v .no [] (.I 1),.n 2] rfl ⟨⟨⟨⟨⟨tt_,rfl⟩,(fun σ g i _=>Stp.idxV rfl rfl (Qu hC.n rfl) (g _ _ rfl) (g _ _ rfl) (Qm.es rfl) (i _ _ rfl) (by decide))⟩,(Qq _ c)⟩,rfl⟩,rfl⟩ ?_
 refine AK.met (AK.rnd ?_)
 refine Qa hC [.n 2,.v .no [] (.b false),.n 8,.denilO 609 [none,some 1,some 1,some 1],.O 609 (.var (Qaw (QaF.mk a.1 ([]:List Int) ([]:List Int) ([]:List Int)))),.K [] [607,608,609]] rfl ⟨⟨tt_,rfl⟩,rfl⟩ ?_
 cases h
 refine AK.done ?_
 exact ex_ [] (an_ tt_ (Qay ⟨rfl,rfl,rfl,tt_⟩))
def QhJ (a:(Int×Qd)):Option Qd:=
 bif a.2.bad then
 some (Qd.mk a.2.b true)
 else
 some (Qd.mk a.2.b (decide (a.1<0)))
def QeD (e:(Int×Qd))(d:Int)(a:Qd)(b:(List Int)):Option ((Int×Qd×(List Int))⊕((List Int)×Qd)):=
 bif ((decide (d<e.1))&&(!a.bad))then
 (Qt a).bind fun c=>
 (chk (decide (b.length+([c.1]:List Int).length≤4294967296))).bind fun _=>
 some (.inl ((w64 (d+1)),c.2,(b++([c.1]:List Int))))
 else
 some (.inr (b,a))
def QeE (a:(List Int))(b:Qd):Option ((List Int)×Qd):=
 some (a,b)
def QcP (a:(Int×Qd))(b:Qd):Option ((List Int)×Qd):=
 (QM (fun st=>QeD a st.1 st.2.1 st.2.2) (0,b,([]:List Int))).bind (fun q=>QeE q.1 q.2)
def Qcw (b:Qd):Option ((List Int)×Qd):=
 (Qt b).bind fun a=>
 (QhJ a).bind (fun c=>QcP a c)
theorem QcQ (A){r}(h:Qcw A=some r):Qh prog 102 [.loc 607 0 0,.clo (.func 98) [] []] [(607,.var (Qb A))] (Qp (.own 600 r.1.length) [(600,.arr 1 (r.1.map Qo)),(607,.var (Qb r.2))]):=by
 refine Qh.walk 40 func102 rfl rfl rfl fun C hC=>?_
 obtain⟨c,t,h⟩:=Qf h
 refine Qa hC [.n 8,.cm (.fn) [(607,607)] [(607,607)] [] [.d] [(607,.var (Qb c.2))] (.I c.1),.n 4] rfl ⟨tt_,(Qq _ t)⟩ ?_
 obtain⟨u,w,h⟩:=Qf h
 replace h:QcP c u=some r:=h
 refine AK.meetX (fun σ=>σ=⟨[(0,.loc 607 0 0),(1,.clo (.func 98) [] []),(5,.I c.1)],[(607,.var (Qb u))]⟩) ?_ ?_
 ·replace h:=w
  refine tg_ hC [.n 7] rfl ?_
  refine bg_ h (fun k h=>Qa hC [.S 15 (.b true),.n 6,.O 607 (.var (Qb (Qd.mk c.2.b true))),.n 1,.K [0,1,5] [607]] rfl ⟨(tc_ k),rfl⟩ ?_) fun k h=>Qa hC [.S 15 (.b false),.n 6,.O 607 (.var (Qb (Qd.mk c.2.b (decide (c.1<0))))),.n 1,.K [0,1,5] [607]] rfl ⟨(tc_ k),rfl⟩ ?_
  ·cases h
   exact AK.met rfl
  cases h
  exact AK.met rfl
 rintro σ rfl
 replace h:QcP c u=some r:=h
 refine Qa hC [.n 13,.adopt 6 33 1,.O 33 (.arr 1 (([]:List Int).map Qo)),.S 6 (.own 33 ([]:List Int).length),.K [0,1,5,6,7] [33,607]] rfl ⟨⟨tt_,rfl⟩,(congrArg (fun n=>V.own 33 n) (by simp))⟩ ?_
 obtain⟨x,l,h⟩:=Qf h
 refine AK.loop (body:=(fun st=>QeD c st.1 st.2.1 st.2.2)) (fun st σ=>σ=⟨[(0,.loc 607 0 0),(1,.clo (.func 98) [] []),(5,.I c.1),(6,.own 33 st.2.2.length),(7,.I st.1)],[(33,.arr 1 (st.2.2.map Qo)),(607,.var (Qb st.2.1))]⟩) (fun q e σ=>e=.exit 0∧σ=⟨[(6,.own 33 q.1.length)],[(33,.arr 1 (q.1.map Qo)),(607,.var (Qb q.2))]⟩) l rfl ?_ ?_
 ·rintro ⟨m,i,j⟩ o σ rfl h
  refine tg_ hC [.n 2] rfl ?_
  refine AK.meetX (fun σ=>σ=⟨[(0,.loc 607 0 0),(1,.clo (.func 98) [] []),(5,.I c.1),(6,.own 33 j.length),(7,.I m),(30,.b ((decide (m<c.1))&&(!i.bad)))],[(33,.arr 1 (j.map Qo)),(607,.var (Qb i))]⟩) ?_ ?_
  ·refine tg_ hC [.n 5] rfl ?_
   rcases Qdz (decide (m<c.1))with a | a
   ·refine Qa hC [.S 24 (.b true),.n 7,.S 30 (.b ((decide (m<c.1))&&(!i.bad))),.K [0,1,5,6,7,30] [33,607]] rfl ⟨(tc_ a),(congrArg V.b (QiB a rfl))⟩ ?_
    exact AK.met rfl
   refine Qa hC [.S 24 (.b false),.n 7,.S 30 (.b ((decide (m<c.1))&&(!i.bad))),.K [0,1,5,6,7,30] [33,607]] rfl ⟨(tc_ a),(congrArg V.b (QiC a rfl))⟩ ?_
   exact AK.met rfl
  rintro σ rfl
  refine tg_ hC [.n 1] rfl ?_
  rcases QH h with⟨f,h⟩|⟨f,h⟩
  ·obtain⟨g,p,h⟩:=Qf h
   obtain⟨s,h⟩:=Qb3 h
   refine Qa hC [.T,.n 8,.cm (.clo) [(607,607)] [(607,607)] [] [.d] [(607,.var (Qb g.2))] (.I g.1),.v (.bd []) [] (.sl 1 (([g.1]:List Int).map Qo)),.app ((j++([g.1]:List Int)).map Qo) (j++([g.1]:List Int)).length,.n 9,.K [0,1,5,6,7] [33,607]] rfl ⟨⟨⟨⟨tt_,f⟩,(Qq _ p)⟩,rfl⟩,⟨Qj,Qej s Qj,Qcb,QeQ Qj⟩⟩ ?_
   cases h
   exact QaT rfl rfl
  refine Qa hC [.F,.n 2,.K [6] [33,607]] rfl ⟨tt_,f⟩ ?_
  cases h
  exact QaP rfl (an_ rfl rfl)
 obtain⟨y,z⟩:=x
 replace h:QeE y z=some r:=h
 rintro e σ ⟨rfl,rfl⟩
 refine tg_ hC [.n 9,.K [4] [33,607],.ren 33 600] rfl ?_
 cases h
 exact d1_ rfl rfl ⟨rfl,rfl,tt_⟩
def QdV (e:Qd):Option (QaF×Qd):=
 (QdB e 0).bind fun a=>
 (Qcw a.1).bind fun b=>
 (Qcw b.2).bind fun c=>
 (Qcw c.2).bind fun d=>
 some ((QaF.mk a.2.Task b.1 c.1 d.1),d.2)
theorem QeF (p){r}(h:QdV p=some r):Qh prog 76 [.loc 607 0 0] [(607,.var (Qb p))] (Qp (.agg (Qaw r.1)) [(607,.var (Qb r.2))]):=by
 refine Qh.walk 25 func76 rfl rfl rfl fun C hC=>?_
 obtain⟨c,j,h⟩:=Qf h
 refine Qa hC [.n 14,.o (.any (.own 8 1) (some (.var [.loc 3 0 0]))),.cm (.fn) [(607,607),(608,8),(609,3)] [(607,607),(8,608),(3,609)] [] [.d,.d] [(607,.var (Qb c.1)),(608,.var [.loc 609 0 0]),(609,.var (Qaw c.2))] (.tup []),.n 8,.o (.any (.own 13 3) (some (.var [.loc 3 0 1,.loc 3 0 2,.loc 3 0 3]))),.n 5] rfl ⟨⟨⟨tt_,(fun σ a f hf=>Stp.buildAny rfl rfl (Qu hC.n rfl) (Qm.es rfl) Qhw rfl (by decide) (by decide) (QbH a rfl) rfl rfl (hf rfl))⟩,(Qfo _ _ j)⟩,(fun σ a f hf=>Stp.buildAny rfl rfl (Qu hC.n rfl) (Qm.es rfl) QlT rfl (by decide) (by decide) (QbH a rfl) rfl rfl (hf rfl))⟩ ?_
 refine AK.loopN 4 (AK.rnd ?_)
 obtain⟨e,k,h⟩:=Qf h
 refine Qa hC [.n 2,.v .no [] (.b true),.n 10,.o (.any (.loc 13 0 0) none),.n 7,.cm (.fn) [(607,607)] [(21,600),(607,607)] [] [.d,.d] [(600,.arr 1 (e.1.map Qo)),(607,.var (Qb e.2))] (.own 600 e.1.length),.n 2,.O 3 (.var [.I c.2.Task,.own 21 e.1.length,.sl 1 (c.2.Ins.map Qo),.sl 1 (c.2.Outs.map Qo)]),.n 4,.v .no [] (.I 1),.n 2] rfl ⟨⟨⟨⟨⟨tt_,rfl⟩,(fun σ a f _=>Stp.idxV rfl rfl (Qu hC.n rfl) (a _ _ rfl) (a _ _ rfl) (Qm.es rfl) (f _ _ rfl) (by decide))⟩,(QcQ _ k)⟩,rfl⟩,rfl⟩ ?_
 refine AK.met (AK.rnd ?_)
 obtain⟨g,l,h⟩:=Qf h
 refine Qa hC [.n 2,.v .no [] (.b true),.n 10,.o (.any (.loc 13 0 1) none),.n 7,.cm (.fn) [(607,607)] [(602,600),(607,607)] [] [.d,.d] [(600,.arr 1 (g.1.map Qo)),(607,.var (Qb g.2))] (.own 600 g.1.length),.n 2,.O 3 (.var [.I c.2.Task,.own 21 e.1.length,.own 602 g.1.length,.sl 1 (c.2.Outs.map Qo)]),.n 4,.v .no [] (.I 2),.n 2] rfl ⟨⟨⟨⟨⟨tt_,rfl⟩,(fun σ a f _=>Stp.idxV rfl rfl (Qu hC.n rfl) (a _ _ rfl) (a _ _ rfl) (Qm.es rfl) (f _ _ rfl) (by decide))⟩,(QcQ _ l)⟩,rfl⟩,rfl⟩ ?_
 refine AK.met (AK.rnd ?_)
 obtain⟨i,m,h⟩:=Qf h
 refine Qa hC [.n 2,.v .no [] (.b true),.n 10,.o (.any (.loc 13 0 2) none),.n 7,.cm (.fn) [(607,607)] [(603,600),(607,607)] [] [.d,.d] [(600,.arr 1 (i.1.map Qo)),(607,.var (Qb i.2))] (.own 600 i.1.length),.n 2,.O 3 (.var [.I c.2.Task,.own 21 e.1.length,.own 602 g.1.length,.own 603 i.1.length]),.n 4,.v .no [] (.I 3),.n 2] rfl ⟨⟨⟨⟨⟨tt_,rfl⟩,(fun σ a f _=>Stp.idxV rfl rfl (Qu hC.n rfl) (a _ _ rfl) (a _ _ rfl) (Qm.es rfl) (f _ _ rfl) (by decide))⟩,(QcQ _ m)⟩,rfl⟩,rfl⟩ ?_
 refine AK.met (AK.rnd ?_)
 refine Qa hC [.n 2,.v .no [] (.b false),.n 13,.O 2 (.var [.I c.2.Task,.own 21 e.1.length,.own 602 g.1.length,.own 603 i.1.length]),.n 3,.frz 21 (e.1.map Qo) [] [2],.frz 602 (g.1.map Qo) [] [2],.frz 603 (i.1.map Qo) [] [2],.K [2] [2,607]] rfl ⟨⟨⟨⟨⟨tt_,rfl⟩,rfl⟩,⟨tt_,⟨(QbI Qj),⟨tt_,⟨tt_,tt_⟩⟩⟩⟩⟩,⟨tt_,⟨(QbI Qj),⟨tt_,tt_⟩⟩⟩⟩,⟨tt_,⟨(QbI Qj),tt_⟩⟩⟩ ?_
 cases h
 exact AK.done (ex_ [_] (an_ (an_ (ex_ _ (ex_ _ (an_ rfl (an_ rfl (Or.inl (an_ (Qm.ag rfl) (an_ (Qm.sz rfl) rfl))))))) tt_) (Qay ⟨rfl,tt_⟩)))
def QdC (c:Qd)(a:Qbg):Option (Qd×Qbg):=
 (Qt c).bind fun b=>
 some (b.2,(Qbg.mk a.Do a.Id a.Mode b.1))
theorem Qfp (f a){r}(h:QdC f a=some r):Qh prog 67 [.loc 607 0 0,.own 608 1] [(607,.var (Qb f)),(608,.var [.loc 609 0 6]),(609,.var (QN a))] (Qp (.tup []) [(607,.var (Qb r.1)),(608,.var [.loc 609 0 6]),(609,.var (QN r.2))]):=by
 refine Qh.walk 17 func67 rfl rfl rfl fun C hC=>?_
 refine tg_ hC [.n 8] rfl ?_
 refine AK.loopN 2 (AK.rnd ?_)
 obtain⟨c,e,h⟩:=Qf h
 refine Qa hC [.n 2,.v .no [] (.b true),.n 10,.o (.any (.loc 608 0 0) none),.n 7,.cm (.fn) [(607,607)] [(607,607)] [] [.d] [(607,.var (Qb c.2))] (.I c.1),.n 2,.O 609 (.var (QN (Qbg.mk a.Do a.Id a.Mode c.1))),.n 4,.v .no [] (.I 1),.n 2] rfl ⟨⟨⟨⟨⟨tt_,rfl⟩,(fun σ g i _=>Stp.idxV rfl rfl (Qu hC.n rfl) (g _ _ rfl) (g _ _ rfl) (Qm.es rfl) (i _ _ rfl) (by decide))⟩,(Qq _ e)⟩,rfl⟩,rfl⟩ ?_
 refine AK.met (AK.rnd ?_)
 refine Qa hC [.n 2,.v .no [] (.b false),.n 8,.K [] [607,608,609]] rfl ⟨tt_,rfl⟩ ?_
 cases h
 refine AK.done ?_
 exact ex_ [] (an_ tt_ (Qay ⟨rfl,rfl,rfl,tt_⟩))
def QdD (a:Qd)(c:Qbg):Option (Int×Qbg):=
 bif (a.bad||(decide (0<(a.b.length:Int))))then
 some (4,(Qbg.mk 0 0 (QaF.mk 0 ([]:(List Int)) ([]:(List Int)) ([]:(List Int))) 0))
 else
 some (0,c)
theorem Qfq (a e){r}(h:QdD a e=some r):Qh prog 77 [.loc 607 0 0,.agg (QN e)] [(607,.var (Qb a))] (Qp (.tup [.agg (QN r.2),.I r.1]) [(607,.var (Qb a))]):=by
 refine Qh.walk 21 func77 rfl rfl rfl fun C hC=>?_
 refine tg_ hC [.n 9] rfl ?_
 refine AK.meetX (fun σ=>σ=⟨[(3,.loc 3 0 0),(4,.loc 4 0 0),(18,.b (a.bad||(decide (0<(a.b.length:Int)))))],[(3,.var (QN e)),(4,.var [.I 0,.I 0,.I 0,.lit (.slice none 0 0),.lit (.slice none 0 0),.lit (.slice none 0 0),.I 0]),(607,.var (Qb a))]⟩) ?_ ?_
 ·refine tg_ hC [.n 6] rfl ?_
  rcases Qdz a.bad with c | c
  ·refine Qa hC [.S 11 (.b true),.n 8,.S 18 (.b (a.bad||(decide (0<(a.b.length:Int))))),.K [3,4,18] [3,4,607]] rfl ⟨(tc_ c),(congrArg V.b (orT c rfl))⟩ ?_
   exact AK.met rfl
  refine Qa hC [.S 11 (.b false),.n 4,.o (.ln a.b.length),.n 3,.S 18 (.b (a.bad||(decide (0<(a.b.length:Int))))),.K [3,4,18] [3,4,607]] rfl ⟨⟨(tc_ c),Qj⟩,(congrArg V.b (orF c rfl))⟩ ?_
  exact AK.met rfl
 rintro σ rfl
 refine tg_ hC [.n 1] rfl ?_
 refine bg_ h (fun d h=>Qa hC [.T,.n 7,.v .no [none,none,none,some 1,some 1,some 1,none] (.agg (QN (Qbg.mk 0 0 (QaF.mk 0 ([]:(List Int)) ([]:(List Int)) ([]:(List Int))) 0))),.n 1,.O 4 (.var (QN (Qbg.mk 0 0 (QaF.mk 0 ([]:(List Int)) ([]:(List Int)) ([]:(List Int))) 0))),.n 5,.K [4,5] [4,607]] rfl ⟨⟨⟨tt_,d⟩,rfl⟩,rfl⟩ ?_) fun d h=>Qa hC [.F,.n 4,.v .no [] (.agg (QN e)),.n 1,.O 4 (.var (QN e)),.n 4,.K [4,5] [4,607]] rfl ⟨⟨⟨tt_,d⟩,rfl⟩,rfl⟩ ?_
 ·cases h
  exact AK.done (ex_ [_,_] (an_ (an_ (ex_ _ (ex_ _ (an_ rfl (an_ rfl (Or.inl (an_ (Qm.ag rfl) (an_ (Qm.sz rfl) rfl))))))) (an_ rfl tt_)) (Qay ⟨rfl,tt_⟩)))
 cases h
 exact AK.done (ex_ [_,_] (an_ (an_ (ex_ _ (ex_ _ (an_ rfl (an_ rfl (Or.inl (an_ (Qm.ag rfl) (an_ (Qm.sz rfl) rfl))))))) (an_ rfl tt_)) (Qay ⟨rfl,tt_⟩)))
def Qdd (e:(List Int)):Option (Int×Qbg):=
 (QeC (Qd.mk e false) 0 0 0 0).bind fun a=>
 (QdV a.1).bind fun b=>
 (QdC b.2 (Qbg.mk a.2.Do a.2.Id b.1 a.2.Num)).bind fun c=>
 (QdD c.1 c.2).bind fun d=>
 some (d.1,d.2)
theorem Qd2 (c){r}(h:Qdd c=some r):Qh prog 32 [.sl 1 (c.map Qn)] [] (Qp (.tup [.agg (QN r.2),.I r.1]) []):=by
 refine Qh.walk 26 func32 rfl rfl rfl fun C hC=>?_
 obtain⟨a,e,h⟩:=Qf h
 obtain⟨f,g,h⟩:=Qf h
 obtain⟨b,i,h⟩:=Qf h
 obtain⟨j,k,h⟩:=Qf h
 refine Qa hC [.n 9,.v .no [] (.agg (Qb (Qd.mk c false))),.n 14,.o (.any (.own 12 2) (some (.var [.loc 5 0 0,.loc 5 0 1]))),.cm (.fn) [(607,8),(608,12),(609,5)] [(8,607),(12,608),(5,609)] [] [.d,.d] [(607,.var (Qb a.1)),(608,.var [.loc 609 0 0,.loc 609 0 1]),(609,.var (QN a.2))] (.tup []),.n 5,.cm (.fn) [(607,8)] [(8,607)] [] [.d] [(607,.var (Qb f.2))] (.agg (Qaw f.1)),.n 2,.O 5 (.var (QN (Qbg.mk a.2.Do a.2.Id f.1 a.2.Num))),.n 6,.o (.any (.own 19 1) (some (.var [.loc 5 0 6]))),.cm (.fn) [(607,8),(608,19),(609,5)] [(8,607),(19,608),(5,609)] [] [.d,.d] [(607,.var (Qb b.1)),(608,.var [.loc 609 0 6]),(609,.var (QN b.2))] (.tup []),.n 5,.v .no [] (.agg (QN b.2)),.cm (.fn) [(607,8)] [(8,607)] [] [.d,.d] [(607,.var (Qb b.1))] (.tup [.agg (QN j.2),.I j.1]),.n 3,.O 2 (.var (QN j.2)),.n 4,.K [2,3] [2]] rfl ⟨⟨⟨⟨⟨⟨⟨⟨⟨⟨tt_,rfl⟩,(fun σ l m hf=>Stp.buildAny rfl rfl (Qu hC.n rfl) (Qm.es rfl) Qhw rfl (by decide) (by decide) (QbH l rfl) rfl rfl (hf rfl))⟩,(QgB _ _ _ _ _ e)⟩,(QeF _ g)⟩,rfl⟩,(fun σ l m hf=>Stp.buildAny rfl rfl (Qu hC.n rfl) (Qm.es rfl) Qhw rfl (by decide) (by decide) (QbH l rfl) rfl rfl (hf rfl))⟩,(Qfp _ _ i)⟩,rfl⟩,(Qfq _ _ k)⟩,rfl⟩ ?_
 cases h
 exact AK.done (ex_ [_,_] (an_ (an_ (ex_ _ (ex_ _ (an_ rfl (an_ rfl (Or.inl (an_ (Qm.ag rfl) (an_ (Qm.sz rfl) rfl))))))) (an_ rfl tt_)) (Qay tt_)))
def QhI (b:(List Int))(a:(Int×Int)):Option (List Int):=
 (Qag b ([a.1,a.2]:List Int)).bind fun c=>
 some c
theorem QiJ (c a){r}(h:QhI c a=some r):Qh prog 92 [.own 605 c.length,.agg (QF a)] [(605,.arr 1 (c.map Qn))] (Qp (.own 605 r.length) [(605,.arr 1 (r.map Qn))]):=by
 refine Qh.walk 8 func92 rfl rfl rfl fun C hC=>?_
 obtain⟨f,e,h⟩:=Qf h
 refine Qa hC [.n 9,.x (fun σ=>(σ.kill 3).put 6 (.sl 1 (([a.1,a.2]:List Int).map Qo))),.cm (.fn) [(605,605)] [(605,605)] [605] [.d,.d] [(605,.arr 1 (f.map Qn))] (.own 605 f.length),.n 4] rfl ⟨⟨tt_,(Stp.sliceVar (b:=3) rfl rfl (Qu hC.n rfl) rfl rfl rfl (Qm.ar rfl) rfl rfl rfl rfl rfl)⟩,(QY _ _ e)⟩ ?_
 cases h
 exact d1_ rfl rfl ⟨rfl,tt_⟩
def Qeq (d:QBg)(a:Int)(e:(List Int)):Option ((Int×(List Int))⊕(List Int)):=
 bif (decide (a<(d.length:Int)))then
 (idx d a).bind fun b=>
 (QhI e b).bind fun c=>
 some (.inl ((w64 (a+1)),c))
 else
 some (.inr e)
def Qer (a:(List Int)):Option (List Int):=
 some a
def Qfe (b:(List Int))(a:QBg):Option (List Int):=
 (Qag b ([(a.length:Int)]:List Int)).bind fun c=>
 (QM (fun st=>Qeq a st.1 st.2) (0,c)).bind (fun q=>Qer q)
theorem Qhx (k c){r}(h:Qfe k c=some r):Qh prog 91 [.own 605 k.length,.sl 2 (c.map QF),.clo (.func 92) [] []] [(605,.arr 1 (k.map Qn))] (Qp (.own 605 r.length) [(605,.arr 1 (r.map Qn))]):=by
 refine Qh.walk 26 func91 rfl rfl rfl fun C hC=>?_
 obtain⟨p,l,h⟩:=Qf h
 refine Qa hC [.n 9,.o (.ln c.length),.v (.bd []) [] (.sl 1 (([(c.length:Int)]:List Int).map Qo)),.cm (.fn) [(605,605)] [(605,605)] [605] [.d,.d] [(605,.arr 1 (p.map Qn))] (.own 605 p.length),.n 7,.o (.ln c.length),.n 4,.K [0,2,14,15,16] [605]] rfl ⟨⟨⟨⟨tt_,Qj⟩,rfl⟩,(QY _ _ l)⟩,Qj⟩ ?_
 obtain⟨m,f,h⟩:=Qf h
 refine AK.loop (body:=(fun st=>Qeq c st.1 st.2)) (fun st σ=>σ=⟨[(0,.own 605 st.2.length),(2,.clo (.func 92) [] []),(14,.sl 2 (c.map QF)),(15,.I (c.length:Int)),(16,.I st.1)],[(605,.arr 1 (st.2.map Qn))]⟩) (fun q e σ=>e=.exit 0∧σ=⟨[(0,.own 605 q.length)],[(605,.arr 1 (q.map Qn))]⟩) f rfl ?_ ?_
 ·rintro ⟨s,t⟩ o σ rfl h
  refine tg_ hC [.n 6] rfl ?_
  rcases QH h with⟨a,h⟩|⟨a,h⟩
  ·obtain⟨b,g,h⟩:=Qf h
   obtain⟨i,j,h⟩:=Qf h
   refine Qa hC [.T,.n 6,.o (.row (QF b)),.v .no [] (.agg (QF b)),.n 2,.O 8 (.var (QF b)),.n 5,.v .no [] (.agg (QF b)),.cm (.clo) [(605,605)] [(605,605)] [605] [.d,.d] [(605,.arr 1 (i.map Qn))] (.own 605 i.length),.n 8,.K [0,2,14,15,16] [605]] rfl ⟨⟨⟨⟨⟨⟨tt_,a⟩,(QaU g)⟩,rfl⟩,rfl⟩,rfl⟩,(QiJ _ _ j)⟩ ?_
   cases h
   exact QaT rfl rfl
  refine Qa hC [.F,.n 2,.K [0] [605]] rfl ⟨tt_,a⟩ ?_
  cases h
  exact QaP rfl (an_ rfl rfl)
 replace h:Qer m=some r:=h
 rintro e σ ⟨rfl,rfl⟩
 refine tg_ hC [.n 9] rfl ?_
 cases h
 exact d1_ rfl rfl ⟨rfl,tt_⟩
def Qiz (a:(List Int))(b:QBg):Option (List Int):=
 (Qfe a b).bind fun c=>
 some c
theorem Qjx (a c){r}(h:Qiz a c=some r):Qh prog 57 [.own 605 a.length,.sl 2 (c.map QF)] [(605,.arr 1 (a.map Qn))] (Qp (.own 605 r.length) [(605,.arr 1 (r.map Qn))]):=by
 refine Qh.walk 8 func57 rfl rfl rfl fun C hC=>?_
 obtain⟨e,b,h⟩:=Qf h
 refine Qa hC [.n 9,.cm (.fn) [(605,605)] [(605,605)] [605] [.d,.d,.d] [(605,.arr 1 (e.map Qn))] (.own 605 e.length),.n 4] rfl ⟨tt_,(Qhx _ _ b)⟩ ?_
 cases h
 exact d1_ rfl rfl ⟨rfl,tt_⟩
def QdE (d:QMk)(a:Int)(e:(List Int)):Option ((Int×(List Int))⊕(List Int)):=
 bif (decide (a<(d.length:Int)))then
 (idx d a).bind fun b=>
 (Qiz e b).bind fun c=>
 some (.inl ((w64 (a+1)),c))
 else
 some (.inr e)
def QdF (a:(List Int)):Option (List Int):=
 some a
def QeG (b:(List Int))(a:QMk):Option (List Int):=
 (Qag b ([(a.length:Int)]:List Int)).bind fun c=>
 (QM (fun st=>QdE a st.1 st.2) (0,c)).bind (fun q=>QdF q)
theorem QgC (j b){r}(h:QeG j b=some r):Qh prog 55 [.own 605 j.length,.sl 1 (b.map Q0),.clo (.func 57) [] []] [(605,.arr 1 (j.map Qn))] (Qp (.own 605 r.length) [(605,.arr 1 (r.map Qn))]):=by
 refine Qh.walk 26 func55 rfl rfl rfl fun C hC=>?_
 obtain⟨p,k,h⟩:=Qf h
 refine Qa hC [.n 9,.o (.ln b.length),.v (.bd []) [] (.sl 1 (([(b.length:Int)]:List Int).map Qo)),.cm (.fn) [(605,605)] [(605,605)] [605] [.d,.d] [(605,.arr 1 (p.map Qn))] (.own 605 p.length),.n 7,.o (.ln b.length),.n 4,.K [0,2,14,15,16] [605]] rfl ⟨⟨⟨⟨tt_,Qj⟩,rfl⟩,(QY _ _ k)⟩,Qj⟩ ?_
 obtain⟨l,c,h⟩:=Qf h
 refine AK.loop (body:=(fun st=>QdE b st.1 st.2)) (fun st σ=>σ=⟨[(0,.own 605 st.2.length),(2,.clo (.func 57) [] []),(14,.sl 1 (b.map Q0)),(15,.I (b.length:Int)),(16,.I st.1)],[(605,.arr 1 (st.2.map Qn))]⟩) (fun q e σ=>e=.exit 0∧σ=⟨[(0,.own 605 q.length)],[(605,.arr 1 (q.map Qn))]⟩) c rfl ?_ ?_
 ·rintro ⟨s,t⟩ o σ rfl h
  refine tg_ hC [.n 6] rfl ?_
  rcases QH h with⟨a,h⟩|⟨a,h⟩
  ·obtain⟨m,f,h⟩:=Qf h
   obtain⟨g,i,h⟩:=Qf h
   refine Qa hC [.T,.n 6,.o (.row (Q0 m)),.n 8,.cm (.clo) [(605,605)] [(605,605)] [605] [.d,.d] [(605,.arr 1 (g.map Qn))] (.own 605 g.length),.n 8,.K [0,2,14,15,16] [605]] rfl ⟨⟨⟨tt_,a⟩,(QaU f)⟩,(Qjx _ _ i)⟩ ?_
   cases h
   exact QaT rfl rfl
  refine Qa hC [.F,.n 2,.K [0] [605]] rfl ⟨tt_,a⟩ ?_
  cases h
  exact QaP rfl (an_ rfl rfl)
 replace h:QdF l=some r:=h
 rintro e σ ⟨rfl,rfl⟩
 refine tg_ hC [.n 9] rfl ?_
 cases h
 exact d1_ rfl rfl ⟨rfl,tt_⟩
def Qh7 (b:(List Int))(a:Qi):Option (List Int):=
 (Qag b ([a.Id]:List Int)).bind fun c=>
 (QfJ c a.Mode).bind fun d=>
 (Qag d ([a.Batch.Most,a.Batch.Enough,a.Batch.Open,a.Batch.Done,a.Batch.Failed,a.Until]:List Int)).bind fun e=>
 some e
theorem Qjb (c b){r}(h:Qh7 c b=some r):Qh prog 58 [.own 605 c.length,.agg (Qc b)] [(605,.arr 1 (c.map Qn))] (Qp (.own 605 r.length) [(605,.arr 1 (r.map Qn))]):=by
 refine Qh.walk 30 func58 rfl rfl rfl fun C hC=>?_
 obtain⟨i,e,h⟩:=Qf h
 obtain⟨j,f,h⟩:=Qf h
 obtain⟨k,g,h⟩:=Qf h
 refine Qa hC [.n 9,.v .no [] (.agg (Qaf b.Batch)),.n 2,.O 5 (.var (Qaf b.Batch)),.n 3,.K [0,3,4,5] [3,5,605]] rfl ⟨⟨tt_,rfl⟩,rfl⟩ ?_
 refine AK.draw2 Qm hC mixed [.N,.N,.N,.a (.bd []) (some ([],.sl 1 (([b.Id]:List Int).map Qo))) false,.m (.cm (.fn) [(605,605)] [(605,605)] [605] [.d,.d] [(605,.arr 1 (i.map Qn))] (.own 605 i.length) []),.a .no none true,.a .no (some ([],.agg (Qaw b.Mode))) true,.m (.cm (.fn) [(605,605)] [(605,605)] [605] [.d,.d] [(605,.arr 1 (j.map Qn))] (.own 605 j.length) []),.a .no none true,.a .no none true,.a .no none true,.a .no none true,.a .no none true,.a .no none true,.a .no none true,.a .no none true,.a .no none true,.a .no none true,.a .no none true,.a .no none true,.a (.bd []) (some ([],.sl 1 (([b.Batch.Most,b.Batch.Enough,b.Batch.Open,b.Batch.Done,b.Batch.Failed,b.Until]:List Int).map Qo))) true,.m (.cm (.fn) [(605,605)] [(605,605)] [605] [.d,.d] [(605,.arr 1 (k.map Qn))] (.own 605 k.length) []),.m .s] [3,4,5] [3,5] [4] [605] rfl rfl rfl ⟨⟨⟨⟨⟨⟨tt_,rfl⟩,⟨tt_,(QY _ _ e)⟩⟩,rfl⟩,⟨tt_,(Qgc _ _ f)⟩⟩,rfl⟩,⟨tt_,(QY _ _ g)⟩⟩ rfl (by kernel_rfl) rfl rfl rfl ?_
 refine tg_ hC [.n 2] rfl ?_
 cases h
 exact d1_ rfl rfl ⟨rfl,tt_⟩
def Qdq (d:(List Qi))(a:Int)(e:(List Int)):Option ((Int×(List Int))⊕(List Int)):=
 bif (decide (a<(d.length:Int)))then
 (idx d a).bind fun b=>
 (Qh7 e b).bind fun c=>
 some (.inl ((w64 (a+1)),c))
 else
 some (.inr e)
def Qdr (a:(List Int)):Option (List Int):=
 some a
def Qes (b:(List Int))(a:(List Qi)):Option (List Int):=
 (Qag b ([(a.length:Int)]:List Int)).bind fun c=>
 (QM (fun st=>Qdq a st.1 st.2) (0,c)).bind (fun q=>Qdr q)
theorem QfT (k c){r}(h:Qes k c=some r):Qh prog 54 [.own 605 k.length,.sl 11 (c.map Qc),.clo (.func 58) [] []] [(605,.arr 1 (k.map Qn))] (Qp (.own 605 r.length) [(605,.arr 1 (r.map Qn))]):=by
 refine Qh.walk 26 func54 rfl rfl rfl fun C hC=>?_
 obtain⟨p,l,h⟩:=Qf h
 refine Qa hC [.n 9,.o (.ln c.length),.v (.bd []) [] (.sl 1 (([(c.length:Int)]:List Int).map Qo)),.cm (.fn) [(605,605)] [(605,605)] [605] [.d,.d] [(605,.arr 1 (p.map Qn))] (.own 605 p.length),.n 7,.o (.ln c.length),.n 4,.K [0,2,14,15,16] [605]] rfl ⟨⟨⟨⟨tt_,Qj⟩,rfl⟩,(QY _ _ l)⟩,Qj⟩ ?_
 obtain⟨m,f,h⟩:=Qf h
 refine AK.loop (body:=(fun st=>Qdq c st.1 st.2)) (fun st σ=>σ=⟨[(0,.own 605 st.2.length),(2,.clo (.func 58) [] []),(14,.sl 11 (c.map Qc)),(15,.I (c.length:Int)),(16,.I st.1)],[(605,.arr 1 (st.2.map Qn))]⟩) (fun q e σ=>e=.exit 0∧σ=⟨[(0,.own 605 q.length)],[(605,.arr 1 (q.map Qn))]⟩) f rfl ?_ ?_
 ·rintro ⟨s,t⟩ o σ rfl h
  refine tg_ hC [.n 6] rfl ?_
  rcases QH h with⟨a,h⟩|⟨a,h⟩
  ·obtain⟨b,g,h⟩:=Qf h
   obtain⟨i,j,h⟩:=Qf h
   refine Qa hC [.T,.n 6,.o (.row (Qc b)),.v .no [] (.agg (Qc b)),.n 2,.O 8 (.var (Qc b)),.n 5,.v .no [] (.agg (Qc b)),.cm (.clo) [(605,605)] [(605,605)] [605] [.d,.d] [(605,.arr 1 (i.map Qn))] (.own 605 i.length),.n 8,.K [0,2,14,15,16] [605]] rfl ⟨⟨⟨⟨⟨⟨tt_,a⟩,(QaU g)⟩,rfl⟩,rfl⟩,rfl⟩,(Qjb _ _ j)⟩ ?_
   cases h
   exact QaT rfl rfl
  refine Qa hC [.F,.n 2,.K [0] [605]] rfl ⟨tt_,a⟩ ?_
  cases h
  exact QaP rfl (an_ rfl rfl)
 replace h:Qdr m=some r:=h
 rintro e σ ⟨rfl,rfl⟩
 refine tg_ hC [.n 9] rfl ?_
 cases h
 exact d1_ rfl rfl ⟨rfl,tt_⟩
def Qe0 (a:Qbn):Option (List Int):=
 (QgA ([a.Next,a.Now]:List Int)).bind fun b=>
 (QeG b a.M).bind fun c=>
 (Qes c a.Items).bind fun d=>
 some d
theorem QgU (b){r}(h:Qe0 b=some r):Qh prog 24 [.agg (QW b)] [] (Qp (.own 600 r.length) [(600,.arr 1 (r.map Qn))]):=by
 refine Qh.walk 15 func24 rfl rfl rfl fun C hC=>?_
 obtain⟨g,c,h⟩:=Qf h
 obtain⟨i,e,h⟩:=Qf h
 obtain⟨j,f,h⟩:=Qf h
 refine tg_ hC [.n 7,.K [1,2] [1]] rfl ?_
 refine AK.draw2 Qm hC mixed [.N,.N,.N,.N,.a (.bd []) (some ([],.sl 1 (([b.Next,b.Now]:List Int).map Qo))) false,.m (.cm (.fn) [] [(8,600)] [8] [.d,.d] [(600,.arr 1 (g.map Qn))] (.own 600 g.length) []),.a .no none true,.a .no none true,.m (.cm (.fn) [(605,8)] [(8,605)] [8] [.d,.d,.d] [(605,.arr 1 (i.map Qn))] (.own 605 i.length) []),.a .no none true,.a .no none true,.m (.cm (.fn) [(605,8)] [(8,605)] [8] [.d,.d,.d] [(605,.arr 1 (j.map Qn))] (.own 605 j.length) []),.m .s] [1,2] [1] [2] [8] rfl rfl rfl ⟨⟨⟨⟨tt_,rfl⟩,⟨tt_,(QgR _ c)⟩⟩,⟨tt_,(QgC _ _ e)⟩⟩,⟨tt_,(QfT _ _ f)⟩⟩ rfl (by kernel_rfl) rfl rfl rfl ?_
 refine tg_ hC [.n 2,.K [2] [8],.ren 8 600] rfl ?_
 cases h
 exact d1_ rfl rfl ⟨rfl,tt_⟩
def QdG (c:Qd)(d:Int)(e:Int):Option (Qd×Qbn):=
 (Qt c).bind fun a=>
 (Qt a.2).bind fun b=>
 some (b.2,(Qbn.mk ([]:List QBg) ([]:List Qi) a.1 b.1))
theorem Qfr (k l f){r}(h:QdG k l f=some r):Qh prog 67 [.loc 607 0 0,.own 608 2] [(607,.var (Qb k)),(608,.var [.loc 609 0 2,.loc 609 0 3]),(609,.var [.lit (.slice none 0 0),.lit (.slice none 0 0),.I l,.I f])] (Qp (.tup []) [(607,.var (Qb r.1)),(608,.var [.loc 609 0 2,.loc 609 0 3]),(609,.var (QW r.2))]):=by
 refine Qh.walk 17 func67 rfl rfl rfl fun C hC=>?_
 refine tg_ hC [.n 8] rfl ?_
 refine AK.loopN 3 (AK.rnd ?_)
 obtain⟨a,g,h⟩:=Qf h
 refine Qa hC [.n 2,.v .no [] (.b true),.n 10,.o (.any (.loc 608 0 0) none),.n 7,.cm (.fn) [(607,607)] [(607,607)] [] [.d] [(607,.var (Qb a.2))] (.I a.1),.n 2,.O 609 (.var [.lit (.slice none 0 0),.lit (.slice none 0 0),.I a.1,.I f]),.n 4,.v .no [] (.I 1),.n 2] rfl ⟨⟨⟨⟨⟨tt_,rfl⟩,(fun σ c i _=>Stp.idxV rfl rfl (Qu hC.n rfl) (c _ _ rfl) (c _ _ rfl) (Qm.es rfl) (i _ _ rfl) (by decide))⟩,(Qq _ g)⟩,rfl⟩,rfl⟩ ?_
 refine AK.met (AK.rnd ?_)
 obtain⟨e,j,h⟩:=Qf h
 refine Qa hC [.n 2,.v .no [] (.b true),.n 10,.o (.any (.loc 608 0 1) none),.n 7,.cm (.fn) [(607,607)] [(607,607)] [] [.d] [(607,.var (Qb e.2))] (.I e.1),.n 2,.O 609 (.var [.lit (.slice none 0 0),.lit (.slice none 0 0),.I a.1,.I e.1]),.n 4,.v .no [] (.I 2),.n 2] rfl ⟨⟨⟨⟨⟨tt_,rfl⟩,(fun σ c i _=>Stp.idxV rfl rfl (Qu hC.n rfl) (c _ _ rfl) (c _ _ rfl) (Qm.es rfl) (i _ _ rfl) (by decide))⟩,(Qq _ j)⟩,rfl⟩,rfl⟩ ?_
 refine AK.met (AK.rnd ?_)
 refine Qa hC [.n 2,.v .no [] (.b false),.n 8,.denilO 609 [some 1,some 11,none,none],.O 609 (.var (QW (Qbn.mk ([]:List QBg) ([]:List Qi) a.1 e.1))),.K [] [607,608,609]] rfl ⟨⟨tt_,rfl⟩,rfl⟩ ?_
 cases h
 refine AK.done ?_
 exact ex_ [] (an_ tt_ (Qay ⟨rfl,rfl,rfl,tt_⟩))
def QdH (c:Qd)(d:(Int×Int)):Option (Qd×(Int×Int)):=
 (Qt c).bind fun a=>
 (Qt a.2).bind fun b=>
 some (b.2,(a.1,b.1))
theorem Qfs (k e){r}(h:QdH k e=some r):Qh prog 67 [.loc 607 0 0,.own 608 2] [(607,.var (Qb k)),(608,.var [.loc 609 0 0,.loc 609 0 1]),(609,.var (QF e))] (Qp (.tup []) [(607,.var (Qb r.1)),(608,.var [.loc 609 0 0,.loc 609 0 1]),(609,.var (QF r.2))]):=by
 refine Qh.walk 17 func67 rfl rfl rfl fun C hC=>?_
 refine tg_ hC [.n 8] rfl ?_
 refine AK.loopN 3 (AK.rnd ?_)
 obtain⟨c,f,h⟩:=Qf h
 refine Qa hC [.n 2,.v .no [] (.b true),.n 10,.o (.any (.loc 608 0 0) none),.n 7,.cm (.fn) [(607,607)] [(607,607)] [] [.d] [(607,.var (Qb c.2))] (.I c.1),.n 2,.O 609 (.var (QF (c.1,e.2))),.n 4,.v .no [] (.I 1),.n 2] rfl ⟨⟨⟨⟨⟨tt_,rfl⟩,(fun σ a g _=>Stp.idxV rfl rfl (Qu hC.n rfl) (a _ _ rfl) (a _ _ rfl) (Qm.es rfl) (g _ _ rfl) (by decide))⟩,(Qq _ f)⟩,rfl⟩,rfl⟩ ?_
 refine AK.met (AK.rnd ?_)
 obtain⟨i,j,h⟩:=Qf h
 refine Qa hC [.n 2,.v .no [] (.b true),.n 10,.o (.any (.loc 608 0 1) none),.n 7,.cm (.fn) [(607,607)] [(607,607)] [] [.d] [(607,.var (Qb i.2))] (.I i.1),.n 2,.O 609 (.var (QF (c.1,i.1))),.n 4,.v .no [] (.I 2),.n 2] rfl ⟨⟨⟨⟨⟨tt_,rfl⟩,(fun σ a g _=>Stp.idxV rfl rfl (Qu hC.n rfl) (a _ _ rfl) (a _ _ rfl) (Qm.es rfl) (g _ _ rfl) (by decide))⟩,(Qq _ j)⟩,rfl⟩,rfl⟩ ?_
 refine AK.met (AK.rnd ?_)
 refine Qa hC [.n 2,.v .no [] (.b false),.n 8,.K [] [607,608,609]] rfl ⟨tt_,rfl⟩ ?_
 cases h
 refine AK.done ?_
 exact ex_ [] (an_ tt_ (Qay ⟨rfl,rfl,rfl,tt_⟩))
def Qff (b:Qd):Option ((Int×Int)×Qd):=
 (QdH b (0,0)).bind fun a=>
 some (a.2,a.1)
theorem Qhy (c){r}(h:Qff c=some r):Qh prog 100 [.loc 607 0 0] [(607,.var (Qb c))] (Qp (.agg (QF r.1)) [(607,.var (Qb r.2))]):=by
 refine Qh.walk 10 func100 rfl rfl rfl fun C hC=>?_
 obtain⟨a,b,h⟩:=Qf h
 refine Qa hC [.n 15,.o (.any (.own 7 2) (some (.var [.loc 3 0 0,.loc 3 0 1]))),.cm (.fn) [(607,607),(608,7),(609,3)] [(607,607),(7,608),(3,609)] [] [.d,.d] [(607,.var (Qb a.1)),(608,.var [.loc 609 0 0,.loc 609 0 1]),(609,.var (QF a.2))] (.tup []),.n 4,.v .no [] (.agg (QF a.2)),.n 1,.O 2 (.var (QF a.2)),.n 3,.K [2] [2,607]] rfl ⟨⟨⟨⟨tt_,(fun σ e f hf=>Stp.buildAny rfl rfl (Qu hC.n rfl) (Qm.es rfl) Qhw rfl (by decide) (by decide) (QbH e rfl) rfl rfl (hf rfl))⟩,(Qfs _ _ b)⟩,rfl⟩,rfl⟩ ?_
 cases h
 exact AK.done (ex_ [_] (an_ (an_ (ex_ _ (ex_ _ (an_ rfl (an_ rfl (Or.inl (an_ (Qm.ag rfl) (an_ (Qm.sz rfl) rfl))))))) tt_) (Qay ⟨rfl,tt_⟩)))
def QgV (a:(Int×Qd)):Option Qd:=
 bif a.2.bad then
 some (Qd.mk a.2.b true)
 else
 some (Qd.mk a.2.b (decide (a.1<0)))
def Qd3 (e:(Int×Qd))(d:Int)(a:Qd)(b:QBg):Option ((Int×Qd×QBg)⊕(QBg×Qd)):=
 bif ((decide (d<e.1))&&(!a.bad))then
 (Qff a).bind fun c=>
 (chk (decide (b.length+([c.1]:List (Int×Int)).length≤4294967296))).bind fun _=>
 some (.inl ((w64 (d+1)),c.2,(b++([c.1]:List (Int×Int)))))
 else
 some (.inr (b,a))
def Qd4 (a:QBg)(b:Qd):Option (QBg×Qd):=
 some (a,b)
def Qch (a:(Int×Qd))(b:Qd):Option (QBg×Qd):=
 (QM (fun st=>Qd3 a st.1 st.2.1 st.2.2) (0,b,([]:List (Int×Int)))).bind (fun q=>Qd4 q.1 q.2)
def Qe1 (b:Qd):Option (QBg×Qd):=
 (Qt b).bind fun a=>
 (QgV a).bind (fun c=>Qch a c)
theorem QgW (A){r}(h:Qe1 A=some r):Qh prog 99 [.loc 607 0 0,.clo (.func 100) [] []] [(607,.var (Qb A))] (Qp (.own 600 r.1.length) [(600,.arr 2 (r.1.map QF)),(607,.var (Qb r.2))]):=by
 refine Qh.walk 40 func99 rfl rfl rfl fun C hC=>?_
 obtain⟨c,t,h⟩:=Qf h
 refine Qa hC [.n 8,.cm (.fn) [(607,607)] [(607,607)] [] [.d] [(607,.var (Qb c.2))] (.I c.1),.n 4] rfl ⟨tt_,(Qq _ t)⟩ ?_
 obtain⟨u,w,h⟩:=Qf h
 replace h:Qch c u=some r:=h
 refine AK.meetX (fun σ=>σ=⟨[(0,.loc 607 0 0),(1,.clo (.func 100) [] []),(5,.I c.1)],[(607,.var (Qb u))]⟩) ?_ ?_
 ·replace h:=w
  refine tg_ hC [.n 7] rfl ?_
  refine bg_ h (fun k h=>Qa hC [.S 15 (.b true),.n 6,.O 607 (.var (Qb (Qd.mk c.2.b true))),.n 1,.K [0,1,5] [607]] rfl ⟨(tc_ k),rfl⟩ ?_) fun k h=>Qa hC [.S 15 (.b false),.n 6,.O 607 (.var (Qb (Qd.mk c.2.b (decide (c.1<0))))),.n 1,.K [0,1,5] [607]] rfl ⟨(tc_ k),rfl⟩ ?_
  ·cases h
   exact AK.met rfl
  cases h
  exact AK.met rfl
 rintro σ rfl
 replace h:Qch c u=some r:=h
 refine Qa hC [.n 13,.adopt 6 33 2,.O 33 (.arr 2 (([]:List (Int×Int)).map QF)),.S 6 (.own 33 ([]:List (Int×Int)).length),.K [0,1,5,6,7] [33,607]] rfl ⟨⟨tt_,rfl⟩,(congrArg (fun n=>V.own 33 n) (by simp))⟩ ?_
 obtain⟨x,l,h⟩:=Qf h
 refine AK.loop (body:=(fun st=>Qd3 c st.1 st.2.1 st.2.2)) (fun st σ=>σ=⟨[(0,.loc 607 0 0),(1,.clo (.func 100) [] []),(5,.I c.1),(6,.own 33 st.2.2.length),(7,.I st.1)],[(33,.arr 2 (st.2.2.map QF)),(607,.var (Qb st.2.1))]⟩) (fun q e σ=>e=.exit 0∧σ=⟨[(6,.own 33 q.1.length)],[(33,.arr 2 (q.1.map QF)),(607,.var (Qb q.2))]⟩) l rfl ?_ ?_
 ·rintro ⟨m,i,j⟩ o σ rfl h
  refine tg_ hC [.n 2] rfl ?_
  refine AK.meetX (fun σ=>σ=⟨[(0,.loc 607 0 0),(1,.clo (.func 100) [] []),(5,.I c.1),(6,.own 33 j.length),(7,.I m),(30,.b ((decide (m<c.1))&&(!i.bad)))],[(33,.arr 2 (j.map QF)),(607,.var (Qb i))]⟩) ?_ ?_
  ·refine tg_ hC [.n 5] rfl ?_
   rcases Qdz (decide (m<c.1))with a | a
   ·refine Qa hC [.S 24 (.b true),.n 7,.S 30 (.b ((decide (m<c.1))&&(!i.bad))),.K [0,1,5,6,7,30] [33,607]] rfl ⟨(tc_ a),(congrArg V.b (QiB a rfl))⟩ ?_
    exact AK.met rfl
   refine Qa hC [.S 24 (.b false),.n 7,.S 30 (.b ((decide (m<c.1))&&(!i.bad))),.K [0,1,5,6,7,30] [33,607]] rfl ⟨(tc_ a),(congrArg V.b (QiC a rfl))⟩ ?_
   exact AK.met rfl
  rintro σ rfl
  refine tg_ hC [.n 1] rfl ?_
  rcases QH h with⟨f,h⟩|⟨f,h⟩
  ·obtain⟨g,p,h⟩:=Qf h
   obtain⟨s,h⟩:=Qb3 h
   refine Qa hC [.T,.n 8,.cm (.clo) [(607,607)] [(607,607)] [] [.d] [(607,.var (Qb g.2))] (.agg (QF g.1)),.v (.bd []) [] (.sl 2 (([g.1]:List (Int×Int)).map QF)),.app ((j++([g.1]:List (Int×Int))).map QF) (j++([g.1]:List (Int×Int))).length,.n 9,.K [0,1,5,6,7] [33,607]] rfl ⟨⟨⟨⟨tt_,f⟩,(Qhy _ p)⟩,rfl⟩,⟨Qj,Qej s Qj,Qcb,QeQ Qj⟩⟩ ?_
   cases h
   exact QaT rfl rfl
  refine Qa hC [.F,.n 2,.K [6] [33,607]] rfl ⟨tt_,f⟩ ?_
  cases h
  exact QaP rfl (an_ rfl rfl)
 obtain⟨y,z⟩:=x
 replace h:Qd4 y z=some r:=h
 rintro e σ ⟨rfl,rfl⟩
 refine tg_ hC [.n 9,.K [4] [33,607],.ren 33 600] rfl ?_
 cases h
 exact d1_ rfl rfl ⟨rfl,rfl,tt_⟩
def Qgd (b:Qd):Option (QBg×Qd):=
 (Qe1 b).bind fun a=>
 some (a.1,a.2)
theorem Qh8 (c){r}(h:Qgd c=some r):Qh prog 69 [.loc 607 0 0] [(607,.var (Qb c))] (Qp (.own 600 r.1.length) [(600,.arr 2 (r.1.map QF)),(607,.var (Qb r.2))]):=by
 refine Qh.walk 5 func69 rfl rfl rfl fun C hC=>?_
 obtain⟨a,b,h⟩:=Qf h
 refine Qa hC [.n 8,.cm (.fn) [(607,607)] [(4,600),(607,607)] [] [.d,.d] [(600,.arr 2 (a.1.map QF)),(607,.var (Qb a.2))] (.own 600 a.1.length),.n 4,.K [2] [4,607],.ren 4 600] rfl ⟨tt_,(QgW _ b)⟩ ?_
 cases h
 exact d1_ rfl rfl ⟨rfl,rfl,tt_⟩
def QfU (a:(Int×Qd)):Option Qd:=
 bif a.2.bad then
 some (Qd.mk a.2.b true)
 else
 some (Qd.mk a.2.b (decide (a.1<0)))
def Qds (e:(Int×Qd))(d:Int)(a:Qd)(b:QMk):Option ((Int×Qd×QMk)⊕(QMk×Qd)):=
 bif ((decide (d<e.1))&&(!a.bad))then
 (Qgd a).bind fun c=>
 (chk (decide (b.length+([c.1]:List QBg).length≤4294967296))).bind fun _=>
 some (.inl ((w64 (d+1)),c.2,(b++([c.1]:List QBg))))
 else
 some (.inr (b,a))
def Qdt (a:QMk)(b:Qd):Option (QMk×Qd):=
 some (a,b)
def QbS (a:(Int×Qd))(b:Qd):Option (QMk×Qd):=
 (QM (fun st=>Qds a st.1 st.2.1 st.2.2) (0,b,([]:List QBg))).bind (fun q=>Qdt q.1 q.2)
def Qet (b:Qd):Option (QMk×Qd):=
 (Qt b).bind fun a=>
 (QfU a).bind (fun c=>QbS a c)
theorem QfV (A){r}(h:Qet A=some r):Qh prog 68 [.loc 607 0 0,.clo (.func 69) [] []] [(607,.var (Qb A))] (Qp (.own 600 r.1.length) [(600,.arr 1 (r.1.map Q0)),(607,.var (Qb r.2))]):=by
 refine Qh.walk 40 func68 rfl rfl rfl fun C hC=>?_
 obtain⟨c,t,h⟩:=Qf h
 refine Qa hC [.n 8,.cm (.fn) [(607,607)] [(607,607)] [] [.d] [(607,.var (Qb c.2))] (.I c.1),.n 4] rfl ⟨tt_,(Qq _ t)⟩ ?_
 obtain⟨u,w,h⟩:=Qf h
 replace h:QbS c u=some r:=h
 refine AK.meetX (fun σ=>σ=⟨[(0,.loc 607 0 0),(1,.clo (.func 69) [] []),(5,.I c.1)],[(607,.var (Qb u))]⟩) ?_ ?_
 ·replace h:=w
  refine tg_ hC [.n 7] rfl ?_
  refine bg_ h (fun k h=>Qa hC [.S 15 (.b true),.n 6,.O 607 (.var (Qb (Qd.mk c.2.b true))),.n 1,.K [0,1,5] [607]] rfl ⟨(tc_ k),rfl⟩ ?_) fun k h=>Qa hC [.S 15 (.b false),.n 6,.O 607 (.var (Qb (Qd.mk c.2.b (decide (c.1<0))))),.n 1,.K [0,1,5] [607]] rfl ⟨(tc_ k),rfl⟩ ?_
  ·cases h
   exact AK.met rfl
  cases h
  exact AK.met rfl
 rintro σ rfl
 replace h:QbS c u=some r:=h
 refine Qa hC [.n 13,.adopt 6 33 1,.O 33 (.arr 1 (([]:List QBg).map Q0)),.S 6 (.own 33 ([]:List QBg).length),.K [0,1,5,6,7] [33,607]] rfl ⟨⟨tt_,rfl⟩,(congrArg (fun n=>V.own 33 n) (by simp))⟩ ?_
 obtain⟨x,l,h⟩:=Qf h
 refine AK.loop (body:=(fun st=>Qds c st.1 st.2.1 st.2.2)) (fun st σ=>σ=⟨[(0,.loc 607 0 0),(1,.clo (.func 69) [] []),(5,.I c.1),(6,.own 33 st.2.2.length),(7,.I st.1)],[(33,.arr 1 (st.2.2.map Q0)),(607,.var (Qb st.2.1))]⟩) (fun q e σ=>e=.exit 0∧σ=⟨[(6,.own 33 q.1.length)],[(33,.arr 1 (q.1.map Q0)),(607,.var (Qb q.2))]⟩) l rfl ?_ ?_
 ·rintro ⟨m,i,j⟩ o σ rfl h
  refine tg_ hC [.n 2] rfl ?_
  refine AK.meetX (fun σ=>σ=⟨[(0,.loc 607 0 0),(1,.clo (.func 69) [] []),(5,.I c.1),(6,.own 33 j.length),(7,.I m),(30,.b ((decide (m<c.1))&&(!i.bad)))],[(33,.arr 1 (j.map Q0)),(607,.var (Qb i))]⟩) ?_ ?_
  ·refine tg_ hC [.n 5] rfl ?_
   rcases Qdz (decide (m<c.1))with a | a
   ·refine Qa hC [.S 24 (.b true),.n 7,.S 30 (.b ((decide (m<c.1))&&(!i.bad))),.K [0,1,5,6,7,30] [33,607]] rfl ⟨(tc_ a),(congrArg V.b (QiB a rfl))⟩ ?_
    exact AK.met rfl
   refine Qa hC [.S 24 (.b false),.n 7,.S 30 (.b ((decide (m<c.1))&&(!i.bad))),.K [0,1,5,6,7,30] [33,607]] rfl ⟨(tc_ a),(congrArg V.b (QiC a rfl))⟩ ?_
   exact AK.met rfl
  rintro σ rfl
  refine tg_ hC [.n 1] rfl ?_
  rcases QH h with⟨g,h⟩|⟨g,h⟩
  ·obtain⟨f,p,h⟩:=Qf h
   obtain⟨s,h⟩:=Qb3 h
   refine Qa hC [.T,.n 8,.cm (.clo) [(607,607)] [(36,600),(607,607)] [] [.d] [(600,.arr 2 (f.1.map QF)),(607,.var (Qb f.2))] (.own 600 f.1.length),.frz 36 (f.1.map QF) [36] [],.v (.bd []) [] (.sl 1 (([f.1]:List QBg).map Q0)),.app ((j++([f.1]:List QBg)).map Q0) (j++([f.1]:List QBg)).length,.n 9,.K [0,1,5,6,7] [33,607]] rfl ⟨⟨⟨⟨⟨tt_,g⟩,(Qh8 _ p)⟩,⟨tt_,(QbI Qj)⟩⟩,rfl⟩,⟨Qj,Qej s Qj,Qcb,QeQ Qj⟩⟩ ?_
   cases h
   exact QaT rfl rfl
  refine Qa hC [.F,.n 2,.K [6] [33,607]] rfl ⟨tt_,g⟩ ?_
  cases h
  exact QaP rfl (an_ rfl rfl)
 obtain⟨y,z⟩:=x
 replace h:Qdt y z=some r:=h
 rintro e σ ⟨rfl,rfl⟩
 refine tg_ hC [.n 9,.K [4] [33,607],.ren 33 600] rfl ?_
 cases h
 exact d1_ rfl rfl ⟨rfl,rfl,tt_⟩
def QdI (h:Qd)(b:Qi):Option (Qd×Qi):=
 (Qt h).bind fun c=>
 (Qt c.2).bind fun d=>
 (Qt d.2).bind fun e=>
 (Qt e.2).bind fun f=>
 (Qt f.2).bind fun g=>
 (Qt g.2).bind fun a=>
 some (a.2,(Qi.mk b.Id b.Mode (Q5.mk c.1 d.1 e.1 f.1 g.1) a.1))
theorem Qft (w a){r}(h:QdI w a=some r):Qh prog 67 [.loc 607 0 0,.own 608 6] [(607,.var (Qb w)),(608,.var [.loc 609 0 5,.loc 609 0 6,.loc 609 0 7,.loc 609 0 8,.loc 609 0 9,.loc 609 0 10]),(609,.var (Qc a))] (Qp (.tup []) [(607,.var (Qb r.1)),(608,.var [.loc 609 0 5,.loc 609 0 6,.loc 609 0 7,.loc 609 0 8,.loc 609 0 9,.loc 609 0 10]),(609,.var (Qc r.2))]):=by
 refine Qh.walk 17 func67 rfl rfl rfl fun C hC=>?_
 refine tg_ hC [.n 8] rfl ?_
 refine AK.loopN 7 (AK.rnd ?_)
 obtain⟨f,p,h⟩:=Qf h
 refine Qa hC [.n 2,.v .no [] (.b true),.n 10,.o (.any (.loc 608 0 0) none),.n 7,.cm (.fn) [(607,607)] [(607,607)] [] [.d] [(607,.var (Qb f.2))] (.I f.1),.n 2,.O 609 (.var (Qc (Qi.mk a.Id a.Mode (Q5.mk f.1 a.Batch.Enough a.Batch.Open a.Batch.Done a.Batch.Failed) a.Until))),.n 4,.v .no [] (.I 1),.n 2] rfl ⟨⟨⟨⟨⟨tt_,rfl⟩,(fun σ c e _=>Stp.idxV rfl rfl (Qu hC.n rfl) (c _ _ rfl) (c _ _ rfl) (Qm.es rfl) (e _ _ rfl) (by decide))⟩,(Qq _ p)⟩,rfl⟩,rfl⟩ ?_
 refine AK.met (AK.rnd ?_)
 obtain⟨g,q,h⟩:=Qf h
 refine Qa hC [.n 2,.v .no [] (.b true),.n 10,.o (.any (.loc 608 0 1) none),.n 7,.cm (.fn) [(607,607)] [(607,607)] [] [.d] [(607,.var (Qb g.2))] (.I g.1),.n 2,.O 609 (.var (Qc (Qi.mk a.Id a.Mode (Q5.mk f.1 g.1 a.Batch.Open a.Batch.Done a.Batch.Failed) a.Until))),.n 4,.v .no [] (.I 2),.n 2] rfl ⟨⟨⟨⟨⟨tt_,rfl⟩,(fun σ c e _=>Stp.idxV rfl rfl (Qu hC.n rfl) (c _ _ rfl) (c _ _ rfl) (Qm.es rfl) (e _ _ rfl) (by decide))⟩,(Qq _ q)⟩,rfl⟩,rfl⟩ ?_
 refine AK.met (AK.rnd ?_)
 obtain⟨j,s,h⟩:=Qf h
 refine Qa hC [.n 2,.v .no [] (.b true),.n 10,.o (.any (.loc 608 0 2) none),.n 7,.cm (.fn) [(607,607)] [(607,607)] [] [.d] [(607,.var (Qb j.2))] (.I j.1),.n 2,.O 609 (.var (Qc (Qi.mk a.Id a.Mode (Q5.mk f.1 g.1 j.1 a.Batch.Done a.Batch.Failed) a.Until))),.n 4,.v .no [] (.I 3),.n 2] rfl ⟨⟨⟨⟨⟨tt_,rfl⟩,(fun σ c e _=>Stp.idxV rfl rfl (Qu hC.n rfl) (c _ _ rfl) (c _ _ rfl) (Qm.es rfl) (e _ _ rfl) (by decide))⟩,(Qq _ s)⟩,rfl⟩,rfl⟩ ?_
 refine AK.met (AK.rnd ?_)
 obtain⟨k,t,h⟩:=Qf h
 refine Qa hC [.n 2,.v .no [] (.b true),.n 10,.o (.any (.loc 608 0 3) none),.n 7,.cm (.fn) [(607,607)] [(607,607)] [] [.d] [(607,.var (Qb k.2))] (.I k.1),.n 2,.O 609 (.var (Qc (Qi.mk a.Id a.Mode (Q5.mk f.1 g.1 j.1 k.1 a.Batch.Failed) a.Until))),.n 4,.v .no [] (.I 4),.n 2] rfl ⟨⟨⟨⟨⟨tt_,rfl⟩,(fun σ c e _=>Stp.idxV rfl rfl (Qu hC.n rfl) (c _ _ rfl) (c _ _ rfl) (Qm.es rfl) (e _ _ rfl) (by decide))⟩,(Qq _ t)⟩,rfl⟩,rfl⟩ ?_
 refine AK.met (AK.rnd ?_)
 obtain⟨m,u,h⟩:=Qf h
 refine Qa hC [.n 2,.v .no [] (.b true),.n 10,.o (.any (.loc 608 0 4) none),.n 7,.cm (.fn) [(607,607)] [(607,607)] [] [.d] [(607,.var (Qb m.2))] (.I m.1),.n 2,.O 609 (.var (Qc (Qi.mk a.Id a.Mode (Q5.mk f.1 g.1 j.1 k.1 m.1) a.Until))),.n 4,.v .no [] (.I 5),.n 2] rfl ⟨⟨⟨⟨⟨tt_,rfl⟩,(fun σ c e _=>Stp.idxV rfl rfl (Qu hC.n rfl) (c _ _ rfl) (c _ _ rfl) (Qm.es rfl) (e _ _ rfl) (by decide))⟩,(Qq _ u)⟩,rfl⟩,rfl⟩ ?_
 refine AK.met (AK.rnd ?_)
 obtain⟨i,l,h⟩:=Qf h
 refine Qa hC [.n 2,.v .no [] (.b true),.n 10,.o (.any (.loc 608 0 5) none),.n 7,.cm (.fn) [(607,607)] [(607,607)] [] [.d] [(607,.var (Qb i.2))] (.I i.1),.n 2,.O 609 (.var (Qc (Qi.mk a.Id a.Mode (Q5.mk f.1 g.1 j.1 k.1 m.1) i.1))),.n 4,.v .no [] (.I 6),.n 2] rfl ⟨⟨⟨⟨⟨tt_,rfl⟩,(fun σ c e _=>Stp.idxV rfl rfl (Qu hC.n rfl) (c _ _ rfl) (c _ _ rfl) (Qm.es rfl) (e _ _ rfl) (by decide))⟩,(Qq _ l)⟩,rfl⟩,rfl⟩ ?_
 refine AK.met (AK.rnd ?_)
 refine Qa hC [.n 2,.v .no [] (.b false),.n 8,.K [] [607,608,609]] rfl ⟨tt_,rfl⟩ ?_
 cases h
 refine AK.done ?_
 exact ex_ [] (an_ tt_ (Qay ⟨rfl,rfl,rfl,tt_⟩))
def QfK (d:Qd):Option (Qi×Qd):=
 (Qt d).bind fun a=>
 (QdV a.2).bind fun b=>
 (QdI b.2 (Qi.mk a.1 b.1 (Q5.mk 0 0 0 0 0) 0)).bind fun c=>
 some (c.2,c.1)
theorem QhK (j){r}(h:QfK j=some r):Qh prog 71 [.loc 607 0 0] [(607,.var (Qb j))] (Qp (.agg (Qc r.1)) [(607,.var (Qb r.2))]):=by
 refine Qh.walk 31 func71 rfl rfl rfl fun C hC=>?_
 obtain⟨c,f,h⟩:=Qf h
 obtain⟨e,g,h⟩:=Qf h
 obtain⟨b,i,h⟩:=Qf h
 refine Qa hC [.n 8,.cm (.fn) [(607,607)] [(607,607)] [] [.d] [(607,.var (Qb c.2))] (.I c.1),.n 1,.cm (.fn) [(607,607)] [(607,607)] [] [.d] [(607,.var (Qb e.2))] (.agg (Qaw e.1)),.v .no [] (.agg (Qc (Qi.mk c.1 e.1 (Q5.mk 0 0 0 0 0) 0))),.n 2,.O 3 (.var (Qc (Qi.mk c.1 e.1 (Q5.mk 0 0 0 0 0) 0))),.n 9,.K [0,2,3,4] [2,3,607]] rfl ⟨⟨⟨⟨tt_,(Qq _ f)⟩,(QeF _ g)⟩,rfl⟩,rfl⟩ ?_
 refine AK.draw2 Qm hC mixed [.N,.N,.N,.N,.N,.N,.N,.N,.N,.N,.N,.N,.N,.N,.N,.N,.N,.a (.any (.own 28 6) (some (.var [.loc 3 0 5,.loc 3 0 6,.loc 3 0 7,.loc 3 0 8,.loc 3 0 9,.loc 3 0 10]))) none false,.m (.cm (.fn) [(607,607),(608,28),(609,3)] [(607,607),(28,608),(3,609)] [] [.d,.d] [(607,.var (Qb b.1)),(608,.var [.loc 609 0 5,.loc 609 0 6,.loc 609 0 7,.loc 609 0 8,.loc 609 0 9,.loc 609 0 10]),(609,.var (Qc b.2))] (.tup []) [28])] [] [] [2,3] [2,3,607] rfl rfl rfl ⟨⟨tt_,(fun σ k l hf=>Stp.buildAny rfl rfl (Qu hC.n rfl) (Qm.es rfl) Qhw rfl (by decide) (by decide) (QbH k rfl) rfl rfl (hf rfl))⟩,⟨⟨tt_,(Qft _ _ i)⟩,⟨rfl,tt_⟩⟩⟩ rfl (by kernel_rfl) rfl rfl rfl ?_
 refine Qa hC [.O 3 (.var (Qc b.2)),.O 607 (.var (Qb b.1)),.n 3,.v .no [] (.agg (Qc b.2)),.n 1,.O 2 (.var (Qc b.2)),.n 3,.K [2] [2,607]] rfl ⟨⟨⟨⟨tt_,rfl⟩,rfl⟩,rfl⟩,rfl⟩ ?_
 cases h
 exact AK.done (ex_ [_] (an_ (an_ (ex_ _ (ex_ _ (an_ rfl (an_ rfl (Or.inl (an_ (Qm.ag rfl) (an_ (Qm.sz rfl) rfl))))))) tt_) (Qay ⟨rfl,tt_⟩)))
def QfL (a:(Int×Qd)):Option Qd:=
 bif a.2.bad then
 some (Qd.mk a.2.b true)
 else
 some (Qd.mk a.2.b (decide (a.1<0)))
def Qde (e:(Int×Qd))(d:Int)(a:Qd)(b:(List Qi)):Option ((Int×Qd×(List Qi))⊕((List Qi)×Qd)):=
 bif ((decide (d<e.1))&&(!a.bad))then
 (QfK a).bind fun c=>
 (chk (decide (b.length+([c.1]:List Qi).length≤4294967296))).bind fun _=>
 some (.inl ((w64 (d+1)),c.2,(b++([c.1]:List Qi))))
 else
 some (.inr (b,a))
def Qdf (a:(List Qi))(b:Qd):Option ((List Qi)×Qd):=
 some (a,b)
def QbJ (a:(Int×Qd))(b:Qd):Option ((List Qi)×Qd):=
 (QM (fun st=>Qde a st.1 st.2.1 st.2.2) (0,b,([]:List Qi))).bind (fun q=>Qdf q.1 q.2)
def Qd5 (b:Qd):Option ((List Qi)×Qd):=
 (Qt b).bind fun a=>
 (QfL a).bind (fun c=>QbJ a c)
theorem QfM (A){r}(h:Qd5 A=some r):Qh prog 70 [.loc 607 0 0,.clo (.func 71) [] []] [(607,.var (Qb A))] (Qp (.own 600 r.1.length) [(600,.arr 11 (r.1.map Qc)),(607,.var (Qb r.2))]):=by
 refine Qh.walk 40 func70 rfl rfl rfl fun C hC=>?_
 obtain⟨c,t,h⟩:=Qf h
 refine Qa hC [.n 8,.cm (.fn) [(607,607)] [(607,607)] [] [.d] [(607,.var (Qb c.2))] (.I c.1),.n 4] rfl ⟨tt_,(Qq _ t)⟩ ?_
 obtain⟨u,w,h⟩:=Qf h
 replace h:QbJ c u=some r:=h
 refine AK.meetX (fun σ=>σ=⟨[(0,.loc 607 0 0),(1,.clo (.func 71) [] []),(5,.I c.1)],[(607,.var (Qb u))]⟩) ?_ ?_
 ·replace h:=w
  refine tg_ hC [.n 7] rfl ?_
  refine bg_ h (fun k h=>Qa hC [.S 15 (.b true),.n 6,.O 607 (.var (Qb (Qd.mk c.2.b true))),.n 1,.K [0,1,5] [607]] rfl ⟨(tc_ k),rfl⟩ ?_) fun k h=>Qa hC [.S 15 (.b false),.n 6,.O 607 (.var (Qb (Qd.mk c.2.b (decide (c.1<0))))),.n 1,.K [0,1,5] [607]] rfl ⟨(tc_ k),rfl⟩ ?_
  ·cases h
   exact AK.met rfl
  cases h
  exact AK.met rfl
 rintro σ rfl
 replace h:QbJ c u=some r:=h
 refine Qa hC [.n 13,.adopt 6 33 11,.O 33 (.arr 11 (([]:List Qi).map Qc)),.S 6 (.own 33 ([]:List Qi).length),.K [0,1,5,6,7] [33,607]] rfl ⟨⟨tt_,rfl⟩,(congrArg (fun n=>V.own 33 n) (by simp))⟩ ?_
 obtain⟨x,l,h⟩:=Qf h
 refine AK.loop (body:=(fun st=>Qde c st.1 st.2.1 st.2.2)) (fun st σ=>σ=⟨[(0,.loc 607 0 0),(1,.clo (.func 71) [] []),(5,.I c.1),(6,.own 33 st.2.2.length),(7,.I st.1)],[(33,.arr 11 (st.2.2.map Qc)),(607,.var (Qb st.2.1))]⟩) (fun q e σ=>e=.exit 0∧σ=⟨[(6,.own 33 q.1.length)],[(33,.arr 11 (q.1.map Qc)),(607,.var (Qb q.2))]⟩) l rfl ?_ ?_
 ·rintro ⟨m,i,j⟩ o σ rfl h
  refine tg_ hC [.n 2] rfl ?_
  refine AK.meetX (fun σ=>σ=⟨[(0,.loc 607 0 0),(1,.clo (.func 71) [] []),(5,.I c.1),(6,.own 33 j.length),(7,.I m),(30,.b ((decide (m<c.1))&&(!i.bad)))],[(33,.arr 11 (j.map Qc)),(607,.var (Qb i))]⟩) ?_ ?_
  ·refine tg_ hC [.n 5] rfl ?_
   rcases Qdz (decide (m<c.1))with a | a
   ·refine Qa hC [.S 24 (.b true),.n 7,.S 30 (.b ((decide (m<c.1))&&(!i.bad))),.K [0,1,5,6,7,30] [33,607]] rfl ⟨(tc_ a),(congrArg V.b (QiB a rfl))⟩ ?_
    exact AK.met rfl
   refine Qa hC [.S 24 (.b false),.n 7,.S 30 (.b ((decide (m<c.1))&&(!i.bad))),.K [0,1,5,6,7,30] [33,607]] rfl ⟨(tc_ a),(congrArg V.b (QiC a rfl))⟩ ?_
   exact AK.met rfl
  rintro σ rfl
  refine tg_ hC [.n 1] rfl ?_
  rcases QH h with⟨f,h⟩|⟨f,h⟩
  ·obtain⟨g,p,h⟩:=Qf h
   obtain⟨s,h⟩:=Qb3 h
   refine Qa hC [.T,.n 8,.cm (.clo) [(607,607)] [(607,607)] [] [.d] [(607,.var (Qb g.2))] (.agg (Qc g.1)),.v (.bd []) [] (.sl 11 (([g.1]:List Qi).map Qc)),.app ((j++([g.1]:List Qi)).map Qc) (j++([g.1]:List Qi)).length,.n 9,.K [0,1,5,6,7] [33,607]] rfl ⟨⟨⟨⟨tt_,f⟩,(QhK _ p)⟩,rfl⟩,⟨Qj,Qej s Qj,Qcb,QeQ Qj⟩⟩ ?_
   cases h
   exact QaT rfl rfl
  refine Qa hC [.F,.n 2,.K [6] [33,607]] rfl ⟨tt_,f⟩ ?_
  cases h
  exact QaP rfl (an_ rfl rfl)
 obtain⟨y,z⟩:=x
 replace h:Qdf y z=some r:=h
 rintro e σ ⟨rfl,rfl⟩
 refine tg_ hC [.n 9,.K [4] [33,607],.ren 33 600] rfl ?_
 cases h
 exact d1_ rfl rfl ⟨rfl,rfl,tt_⟩
def QdJ (a:Qd)(c:Qbn):Option (Int×Qbn):=
 bif (a.bad||(decide (0<(a.b.length:Int))))then
 some (4,(Qbn.mk ([]:QMk) ([]:(List Qi)) 0 0))
 else
 some (0,c)
theorem Qfu (a e){r}(h:QdJ a e=some r):Qh prog 72 [.loc 607 0 0,.agg (QW e)] [(607,.var (Qb a))] (Qp (.tup [.agg (QW r.2),.I r.1]) [(607,.var (Qb a))]):=by
 refine Qh.walk 21 func72 rfl rfl rfl fun C hC=>?_
 refine tg_ hC [.n 9] rfl ?_
 refine AK.meetX (fun σ=>σ=⟨[(3,.loc 3 0 0),(4,.loc 4 0 0),(18,.b (a.bad||(decide (0<(a.b.length:Int)))))],[(3,.var (QW e)),(4,.var [.lit (.slice none 0 0),.lit (.slice none 0 0),.I 0,.I 0]),(607,.var (Qb a))]⟩) ?_ ?_
 ·refine tg_ hC [.n 6] rfl ?_
  rcases Qdz a.bad with c | c
  ·refine Qa hC [.S 11 (.b true),.n 8,.S 18 (.b (a.bad||(decide (0<(a.b.length:Int))))),.K [3,4,18] [3,4,607]] rfl ⟨(tc_ c),(congrArg V.b (orT c rfl))⟩ ?_
   exact AK.met rfl
  refine Qa hC [.S 11 (.b false),.n 4,.o (.ln a.b.length),.n 3,.S 18 (.b (a.bad||(decide (0<(a.b.length:Int))))),.K [3,4,18] [3,4,607]] rfl ⟨⟨(tc_ c),Qj⟩,(congrArg V.b (orF c rfl))⟩ ?_
  exact AK.met rfl
 rintro σ rfl
 refine tg_ hC [.n 1] rfl ?_
 refine bg_ h (fun d h=>Qa hC [.T,.n 7,.v .no [some 1,some 11,none,none] (.agg (QW (Qbn.mk ([]:QMk) ([]:(List Qi)) 0 0))),.n 1,.O 4 (.var (QW (Qbn.mk ([]:QMk) ([]:(List Qi)) 0 0))),.n 5,.K [4,5] [4,607]] rfl ⟨⟨⟨tt_,d⟩,rfl⟩,rfl⟩ ?_) fun d h=>Qa hC [.F,.n 4,.v .no [] (.agg (QW e)),.n 1,.O 4 (.var (QW e)),.n 4,.K [4,5] [4,607]] rfl ⟨⟨⟨tt_,d⟩,rfl⟩,rfl⟩ ?_
 ·cases h
  exact AK.done (ex_ [_,_] (an_ (an_ (ex_ _ (ex_ _ (an_ rfl (an_ rfl (Or.inl (an_ (Qm.ag rfl) (an_ (Qm.sz rfl) rfl))))))) (an_ rfl tt_)) (Qay ⟨rfl,tt_⟩)))
 cases h
 exact AK.done (ex_ [_,_] (an_ (an_ (ex_ _ (ex_ _ (an_ rfl (an_ rfl (Or.inl (an_ (Qm.ag rfl) (an_ (Qm.sz rfl) rfl))))))) (an_ rfl tt_)) (Qay ⟨rfl,tt_⟩)))
def Qe2 (e:(List Int)):Option (Int×Qbn):=
 (QdG (Qd.mk e false) 0 0).bind fun a=>
 (Qet a.1).bind fun b=>
 (Qd5 b.2).bind fun c=>
 (QdJ c.2 (Qbn.mk b.1 c.1 a.2.Next a.2.Now)).bind fun d=>
 some (d.1,d.2)
theorem QgX (e){r}(h:Qe2 e=some r):Qh prog 30 [.sl 1 (e.map Qn)] [] (Qp (.tup [.agg (QW r.2),.I r.1]) []):=by
 refine Qh.walk 25 func30 rfl rfl rfl fun C hC=>?_
 obtain⟨a,f,h⟩:=Qf h
 obtain⟨b,g,h⟩:=Qf h
 obtain⟨c,i,h⟩:=Qf h
 obtain⟨j,k,h⟩:=Qf h
 refine Qa hC [.n 9,.v .no [] (.agg (Qb (Qd.mk e false))),.n 14,.o (.any (.own 12 2) (some (.var [.loc 5 0 2,.loc 5 0 3]))),.cm (.fn) [(607,8),(608,12),(609,5)] [(8,607),(12,608),(5,609)] [] [.d,.d] [(607,.var (Qb a.1)),(608,.var [.loc 609 0 2,.loc 609 0 3]),(609,.var (QW a.2))] (.tup []),.n 5,.cm (.fn) [(607,8)] [(15,600),(8,607)] [] [.d,.d] [(600,.arr 1 (b.1.map Q0)),(607,.var (Qb b.2))] (.own 600 b.1.length),.n 2,.O 5 (.var [.own 15 b.1.length,.sl 11 (a.2.Items.map Qc),.I a.2.Next,.I a.2.Now]),.n 5,.cm (.fn) [(607,8)] [(18,600),(8,607)] [] [.d,.d] [(600,.arr 11 (c.1.map Qc)),(607,.var (Qb c.2))] (.own 600 c.1.length),.n 2,.O 5 (.var [.own 15 b.1.length,.own 18 c.1.length,.I a.2.Next,.I a.2.Now]),.n 6,.frz 15 (b.1.map Q0) [15,21] [5],.frz 18 (c.1.map Qc) [18,21] [5],.cm (.fn) [(607,8)] [(8,607)] [] [.d,.d] [(607,.var (Qb c.2))] (.tup [.agg (QW j.2),.I j.1]),.n 3,.O 2 (.var (QW j.2)),.n 4,.K [2,3] [2]] rfl ⟨⟨⟨⟨⟨⟨⟨⟨⟨⟨⟨tt_,rfl⟩,(fun σ l m hf=>Stp.buildAny rfl rfl (Qu hC.n rfl) (Qm.es rfl) Qhw rfl (by decide) (by decide) (QbH l rfl) rfl rfl (hf rfl))⟩,(Qfr _ _ _ f)⟩,(QfV _ g)⟩,rfl⟩,(QfM _ i)⟩,rfl⟩,⟨⟨⟨tt_,(QbI Qj)⟩,⟨(QbI Qj),⟨tt_,tt_⟩⟩⟩,⟨(QbI Qj),⟨tt_,tt_⟩⟩⟩⟩,⟨⟨⟨tt_,(QbI Qj)⟩,⟨(QbI Qj),tt_⟩⟩,⟨(QbI Qj),tt_⟩⟩⟩,(Qfu _ _ k)⟩,rfl⟩ ?_
 cases h
 exact AK.done (ex_ [_,_] (an_ (an_ (ex_ _ (ex_ _ (an_ rfl (an_ rfl (Or.inl (an_ (Qm.ag rfl) (an_ (Qm.sz rfl) rfl))))))) (an_ rfl tt_)) (Qay tt_)))
def QeJ (a:Qi)(b:Int):Option Bool:=
 some (a.Id==b)
theorem Qis (c a){r}(h:QeJ c a=some r):Qh prog 43 [.agg (Qc c),.loc 607 0 0] [(607,.var (Qo a))] (Qp (.b r) [(607,.var (Qo a))]):=by
 refine Qh.walk 8 func43 rfl rfl rfl fun C hC=>?_
 refine tg_ hC [.n 16] rfl ?_
 cases h
 exact d1_ rfl rfl ⟨rfl,tt_⟩
def Qy (c:(List Qi))(d:Int)(a:Int):Option (Int⊕(Int⊕Unit)):=
 bif (decide (a<(c.length:Int)))then
 (idx c a).bind fun e=>
 (QeJ e d).bind fun b=>
 bif b then
 some (.inr (.inl a))
 else
 some (.inl (w64 (a+1)))
 else
 some (.inr (.inr ()))
def QaL (a:Int):Option Int:=
 some a
def QaM : Option Int:=
 some (-1)
def Qar (a:(List Qi))(b:Int):Option Int:=
 (QM (fun st=>Qy a b st) 0).bind (Sum.elim (fun q=>QaL q) (fun q=>QaM))
theorem Qci (g c){r}(h:Qar g c=some r):Qh prog 37 [.sl 11 (g.map Qc),.clo (.func 43) [] [.loc 607 0 0]] [(607,.var (Qo c))] (Qp (.I r) [(607,.var (Qo c))]):=by
 refine Qh.walk 19 func37 rfl rfl rfl fun C hC=>?_
 refine Qa hC [.n 9,.o (.ln g.length),.n 4,.K [0,1,7,8] [607]] rfl ⟨tt_,Qj⟩ ?_
 obtain⟨k,i,h⟩:=Qf h
 refine AK.loop (body:=(fun st=>Qy g c st)) (fun st σ=>σ=⟨[(0,.sl 11 (g.map Qc)),(1,.clo (.func 43) [] [.loc 607 0 0]),(7,.I (g.length:Int)),(8,.I st)],[(607,.var (Qo c))]⟩) (Sum.elim (fun q e σ=>e=.ret∧σ=⟨[(4,.I q)],[(607,.var (Qo c))]⟩) (fun q e σ=>e=.exit 0∧σ=⟨[],[(607,.var (Qo c))]⟩)) i rfl ?_ ?_
 ·rintro t o σ rfl h
  refine tg_ hC [.n 6] rfl ?_
  rcases QH h with⟨f,h⟩|⟨f,h⟩
  ·obtain⟨p,l,h⟩:=Qf h
   obtain⟨m,j,h⟩:=Qf h
   refine Qa hC [.T,.n 15,.o (.row (Qc p)),.v .no [] (.agg (Qc p)),.cm (.clo) [(607,607)] [(607,607)] [] [.d,.d] [(607,.var (Qo c))] (.b m),.n 2] rfl ⟨⟨⟨⟨tt_,f⟩,(QaU l)⟩,rfl⟩,(Qis _ _ j)⟩ ?_
   refine bg_ h (fun a h=>Qa hC [.T,.n 9,.K [4] [607]] rfl ⟨tt_,a⟩ ?_) fun a h=>Qa hC [.F,.n 7,.K [0,1,7,8] [607]] rfl ⟨tt_,a⟩ ?_
   ·cases h
    exact Qgu rfl (an_ rfl rfl)
   cases h
   exact QaT rfl rfl
  refine Qa hC [.F,.n 2,.K [] [607]] rfl ⟨tt_,f⟩ ?_
  cases h
  exact QaP rfl (an_ rfl rfl)
 rcases k with(s | _)
 ·replace h:QaL s=some r:=h
  rintro e σ ⟨rfl,rfl⟩
  refine tg_ hC [.n 2] rfl ?_
  cases h
  exact d1_ rfl rfl ⟨rfl,tt_⟩
 replace h:QaM=some r:=h
 rintro e σ ⟨rfl,rfl⟩
 refine tg_ hC [.n 8] rfl ?_
 cases h
 exact d1_ rfl rfl ⟨rfl,tt_⟩
def Qah (b:(List Qi))(a:Int):Option Int:=
 (Qar b a).bind fun c=>
 some c
theorem Qbo (c a){r}(h:Qah c a=some r):Qh prog 16 [.sl 11 (c.map Qc),.I a] [] (Qp (.I r) []):=by
 refine Qh.walk 8 func16 rfl rfl rfl fun C hC=>?_
 obtain⟨e,b,h⟩:=Qf h
 refine Qa hC [.n 10,.cm (.fn) [(607,3)] [(3,607)] [] [.d,.d] [(607,.var (Qo a))] (.I e),.n 4] rfl ⟨tt_,(Qci _ _ b)⟩ ?_
 cases h
 exact d1_ rfl rfl tt_
def QgD  : Option ((List (Int×(Option Nat)))×(List Qe)):=
 some (([]:(List (Int×(Option Nat)))),([]:List Qe))
theorem Qjy (gA:Nat→Nat)  {r:((List (Int×(Option Nat)))×(List Qe))}(h:QgD  = some r):Qh prog 44 [] [] (Qp (.loc 3 0 0) [(1,.map (QA V.I (QE gA) r.1)),(3,.var [.lit (.slice none 0 0),.map 1]),(601,.tbl gA 3 (r.2.map Qg))]):=by
 refine Qh.walk 4 func44 rfl rfl rfl fun C hC=>?_
 refine tg_ hC [.n 7] rfl ?_
 refine AK.newTbl 601 3 gA rfl rfl ?_
 refine Qa hC [.O 601 (.tbl gA 3 (([]:List Qe).map Qg)),.n 1,.O 1 (.map (QA V.I (QE gA) ([]:(List (Int×(Option Nat)))))),.v .no [] (.agg [.lit (.slice none 0 0),.map 1]),.n 5] rfl ⟨⟨⟨tt_,rfl⟩,rfl⟩,rfl⟩ ?_
 cases h
 exact d1_ rfl rfl ⟨rfl,rfl,rfl,tt_⟩
def Qbr (a:(List (Option Nat)))(b:(List (Int×(Option Nat))))(c:(List Qe)):Option Int:=
 some (a.length:Int)
theorem Qeu (gA:Nat→Nat)(a:(List (Option Nat)))(b:(List (Int×(Option Nat))))(c:(List Qe)){r:Int}(h:Qbr a b c=some r):Qh prog 84 [.loc 607 0 0] [(607,.var [.own 605 a.length,.map 608]),(605,.arr 1 (a.map (Qw gA))),(608,.map (QA V.I (QE gA) b)),(609,.tbl gA 3 (c.map Qg))] (Qp (.I r) [(605,.arr 1 (a.map (Qw gA))),(607,.var [.own 605 a.length,.map 608]),(608,.map (QA V.I (QE gA) b)),(609,.tbl gA 3 (c.map Qg))]):=by
 refine Qh.walk 8 func84 rfl rfl rfl fun C hC=>?_
 refine tg_ hC [.n 16] rfl ?_
 cases h
 exact d1_ rfl rfl ⟨rfl,rfl,rfl,rfl,tt_⟩
def Qcx (a:(List (Option Nat)))(f:(List (Int×(Option Nat))))(b:(Option Nat))(c:(List Qe)):Option ((List (Option Nat))×(List Qe)):=
 (b).bind fun d=>
 (c[d]?).bind fun e=>
 (chk (decide (a.length+([b]:List (Option Nat)).length≤4294967296))).bind fun _=>
 some ((a++([b]:List (Option Nat))),(c.set d (Qe.mk e.id e.at_ (a.length:Int))))
theorem QfW (gA:Nat→Nat)(a:(List (Option Nat)))(d:(List (Int×(Option Nat))))(c:(Option Nat))(e:(List Qe)){r:((List (Option Nat))×(List Qe))}(h:Qcx a d c e=some r):Qh prog 128 [.loc 607 0 0,.ifc 116 (QE gA c)] [(607,.var [.own 605 a.length,.map 608]),(605,.arr 1 (a.map (Qw gA))),(608,.map (QA V.I (QE gA) d)),(609,.tbl gA 3 (e.map Qg))] (Qp (.tup []) [(605,.arr 1 (r.1.map (Qw gA))),(607,.var [.own 605 r.1.length,.map 608]),(608,.map (QA V.I (QE gA) d)),(609,.tbl gA 3 (r.2.map Qg))]):=by
 refine Qh.walk 22 func128 rfl rfl rfl fun C hC=>?_
 obtain⟨f,g,h⟩:=Qf h
 obtain⟨l,i,h⟩:=Qf h
 obtain⟨j,h⟩:=Qb3 h
 refine Qa hC [.n 14,.o (.any (Qap gA 0 f) none),.o (.any (Qap gA 2 f) none),.x (fun σ=>σ.set 609 (.tbl gA 3 ((e.set f (Qe.mk l.id l.at_ (a.length:Int))).map Qg))),.n 8,.v (.bd []) [] (.sl 1 (([c]:List (Option Nat)).map (Qw gA))),.app ((a++([c]:List (Option Nat))).map (Qw gA)) (a++([c]:List (Option Nat))).length,.n 2,.O 607 (.var [.own 605 (a++([c]:List (Option Nat))).length,.map 608]),.n 1,.K [] [605,607,608,609]] rfl ⟨⟨⟨⟨⟨⟨tt_,(fun σ k m _=>Stp.nilCheckP rfl rfl (Qu hC.n rfl) (k _ _ rfl) g)⟩,(fun σ k m _=>Stp.fieldP rfl rfl (Qu hC.n rfl) (k _ _ rfl) (Qm.fo rfl rfl) rfl)⟩,(Stp.storeP (b:=609) rfl rfl rfl rfl (QJ i) rfl rfl rfl rfl (Qm.sz rfl) (QhV rfl))⟩,rfl⟩,⟨Qj,Qej j Qj,Qcb,QeQ Qj⟩⟩,rfl⟩ ?_
 cases h
 refine AK.done ?_
 exact ex_ [] (an_ tt_ (Qay ⟨rfl,rfl,rfl,rfl,tt_⟩))
def QaG (a:(List (Option Nat)))(b:(List Qe)):Option Int:=
 some (a.length:Int)
theorem QdK (gA:Nat→Nat)(a:(List (Option Nat)))(b:(List Qe)){r:Int}(h:QaG a b=some r):Qh prog 124 [.own 607 a.length] [(607,.arr 1 (a.map (Qw gA))),(608,.tbl gA 3 (b.map Qg))] (Qp (.I r) [(607,.arr 1 (a.map (Qw gA))),(608,.tbl gA 3 (b.map Qg))]):=by
 refine Qh.walk 5 func124 rfl rfl rfl fun C hC=>?_
 refine tg_ hC [.n 13] rfl ?_
 cases h
 exact d1_ rfl rfl ⟨rfl,rfl,tt_⟩
def Qdu (a:(List (Option Nat)))(c:Int)(b:(List Qe))(d:Int):Option Bool:=
 (idx a c).bind fun u=>
 (u).bind fun v=>
 (b[v]?).bind fun e=>
 (idx a d).bind fun f=>
 (f).bind fun g=>
 (b[g]?).bind fun h=>
 bif (decide (e.at_<h.at_))then
 some true
 else
 (idx a c).bind fun i=>
 (i).bind fun j=>
 (b[j]?).bind fun k=>
 (idx a d).bind fun l=>
 (l).bind fun m=>
 (b[m]?).bind fun n=>
 bif (k.at_==n.at_)then
 (idx a c).bind fun o=>
 (o).bind fun p=>
 (b[p]?).bind fun q=>
 (idx a d).bind fun r=>
 (r).bind fun s=>
 (b[s]?).bind fun t=>
 some (decide (q.id<t.id))
 else
 some false
def Qa4 (a:Bool):Option Bool:=
 some a
def QaD (a:(List (Option Nat)))(b:Int)(c:Int)(d:(List Qe)):Option Bool:=
 (Qdu a b d c).bind (fun e=>Qa4 e)
theorem QbT (gA:Nat→Nat)(H:(List (Option Nat)))(i2:Int)(k3:Int)(Y:(List Qe)){r:Bool}(h:QaD H i2 k3 Y=some r):Qh prog 125 [.own 607 H.length,.I i2,.I k3] [(607,.arr 1 (H.map (Qw gA))),(608,.tbl gA 3 (Y.map Qg))] (Qp (.b r) [(607,.arr 1 (H.map (Qw gA))),(608,.tbl gA 3 (Y.map Qg))]):=by
 refine Qh.walk 56 func125 rfl rfl rfl fun C hC=>?_
 refine tg_ hC [.n 6] rfl ?_
 obtain⟨Z,a0,h⟩:=Qf h
 replace h:Qa4 Z=some r:=h
 refine AK.meetX (fun σ=>σ=⟨[(6,.b Z)],[(607,.arr 1 (H.map (Qw gA))),(608,.tbl gA 3 (Y.map Qg))]⟩) ?_ ?_
 ·replace h:=a0
  obtain⟨e8,j,h⟩:=Qf h
  obtain⟨G,B,h⟩:=Qf h
  obtain⟨D,l,h⟩:=Qf h
  obtain⟨E,e,h⟩:=Qf h
  obtain⟨k,o,h⟩:=Qf h
  obtain⟨F,p,h⟩:=Qf h
  refine tg_ hC [.K [0,1,2,6] [607,608]] rfl ?_
  rcases QH h with⟨f,h⟩|⟨f,h⟩
  ·refine AK.draw2 Qm hC mixed [.N,.N,.N,.a (.row ((Qw gA) e8)) none false,.a (.any (Qap gA 0 G) none) none false,.a (.any (Qap gA 1 G) none) none false,.a (.any (.I D.at_) none) none false,.N,.N,.N,.a (.row ((Qw gA) E)) none false,.a (.any (Qap gA 0 k) none) none false,.a (.any (Qap gA 1 k) none) none false,.a (.any (.I F.at_) none) none false,.N,.a .no (some ([],.b true)) false,.N,.N,.N,.N,.N,.N,.N,.N,.N,.N,.N,.N,.N,.N,.N,.N,.N,.N,.N,.N,.N,.N,.N,.N,.N,.N,.N,.N,.N,.N,.N,.N,.N,.m .s] [] [] [6] [607,608] rfl rfl rfl ⟨⟨⟨⟨⟨⟨⟨⟨⟨⟨⟨tt_,(QaV j rfl)⟩,(QJ (Qba j).2)⟩,(fun σ c d _=>Stp.nilCheckP rfl rfl (Qu hC.n rfl) (c _ _ rfl) B)⟩,(fun σ c d _=>Stp.fieldP rfl rfl (Qu hC.n rfl) (c _ _ rfl) (Qm.fo rfl rfl) rfl)⟩,(fun σ c d _=>Stp.loadP (b:=608) rfl rfl (Qu hC.n rfl) (c _ _ rfl) (d _ _ rfl) (Qm.ag rfl) (QJ l) rfl)⟩,(QaV e rfl)⟩,(QJ (Qba e).2)⟩,(fun σ c d _=>Stp.nilCheckP rfl rfl (Qu hC.n rfl) (c _ _ rfl) o)⟩,(fun σ c d _=>Stp.fieldP rfl rfl (Qu hC.n rfl) (c _ _ rfl) (Qm.fo rfl rfl) rfl)⟩,(fun σ c d _=>Stp.loadP (b:=608) rfl rfl (Qu hC.n rfl) (c _ _ rfl) (d _ _ rfl) (Qm.ag rfl) (QJ p) rfl)⟩,(cb_ f)⟩ rfl (by kernel_rfl) rfl rfl rfl ?_
   refine tg_ hC [.K [6] [607,608]] rfl ?_
   cases h
   exact AK.met rfl
  obtain⟨J,g,h⟩:=Qf h
  obtain⟨t,v,h⟩:=Qf h
  obtain⟨L,w,h⟩:=Qf h
  obtain⟨M,i,h⟩:=Qf h
  obtain⟨u,x,h⟩:=Qf h
  obtain⟨O,y,h⟩:=Qf h
  rcases QH h with⟨q,h⟩|⟨q,h⟩
  ·obtain⟨a1,z,h⟩:=Qf h
   obtain⟨P,S,h⟩:=Qf h
   obtain⟨a2,T,h⟩:=Qf h
   obtain⟨a3,A,h⟩:=Qf h
   obtain⟨U,W,h⟩:=Qf h
   obtain⟨a4,X,h⟩:=Qf h
   refine AK.draw2 Qm hC mixed [.N,.N,.N,.a (.row ((Qw gA) e8)) none false,.a (.any (Qap gA 0 G) none) none false,.a (.any (Qap gA 1 G) none) none false,.a (.any (.I D.at_) none) none false,.N,.N,.N,.a (.row ((Qw gA) E)) none false,.a (.any (Qap gA 0 k) none) none false,.a (.any (Qap gA 1 k) none) none false,.a (.any (.I F.at_) none) none false,.N,.a .no (some ([],.b false)) false,.N,.N,.N,.a (.row ((Qw gA) J)) none false,.a (.any (Qap gA 0 t) none) none false,.a (.any (Qap gA 1 t) none) none false,.a (.any (.I L.at_) none) none false,.N,.N,.N,.a (.row ((Qw gA) M)) none false,.a (.any (Qap gA 0 u) none) none false,.a (.any (Qap gA 1 u) none) none false,.a (.any (.I O.at_) none) none false,.N,.a .no (some ([],.b true)) false,.N,.N,.N,.a (.row ((Qw gA) a1)) none false,.a (.any (Qap gA 0 P) none) none false,.a (.any (Qap gA 0 P) none) none false,.a (.any (.I a2.id) none) none false,.N,.N,.N,.a (.row ((Qw gA) a3)) none false,.a (.any (Qap gA 0 U) none) none false,.a (.any (Qap gA 0 U) none) none false,.a (.any (.I a4.id) none) none false,.N,.N,.N,.m .s] [] [] [6] [607,608] rfl rfl rfl ⟨⟨⟨⟨⟨⟨⟨⟨⟨⟨⟨⟨⟨⟨⟨⟨⟨⟨⟨⟨⟨⟨⟨⟨⟨⟨⟨⟨⟨⟨⟨⟨tt_,(QaV j rfl)⟩,(QJ (Qba j).2)⟩,(fun σ c d _=>Stp.nilCheckP rfl rfl (Qu hC.n rfl) (c _ _ rfl) B)⟩,(fun σ c d _=>Stp.fieldP rfl rfl (Qu hC.n rfl) (c _ _ rfl) (Qm.fo rfl rfl) rfl)⟩,(fun σ c d _=>Stp.loadP (b:=608) rfl rfl (Qu hC.n rfl) (c _ _ rfl) (d _ _ rfl) (Qm.ag rfl) (QJ l) rfl)⟩,(QaV e rfl)⟩,(QJ (Qba e).2)⟩,(fun σ c d _=>Stp.nilCheckP rfl rfl (Qu hC.n rfl) (c _ _ rfl) o)⟩,(fun σ c d _=>Stp.fieldP rfl rfl (Qu hC.n rfl) (c _ _ rfl) (Qm.fo rfl rfl) rfl)⟩,(fun σ c d _=>Stp.loadP (b:=608) rfl rfl (Qu hC.n rfl) (c _ _ rfl) (d _ _ rfl) (Qm.ag rfl) (QJ p) rfl)⟩,(cb_ f)⟩,(QaV g rfl)⟩,(QJ (Qba g).2)⟩,(fun σ c d _=>Stp.nilCheckP rfl rfl (Qu hC.n rfl) (c _ _ rfl) v)⟩,(fun σ c d _=>Stp.fieldP rfl rfl (Qu hC.n rfl) (c _ _ rfl) (Qm.fo rfl rfl) rfl)⟩,(fun σ c d _=>Stp.loadP (b:=608) rfl rfl (Qu hC.n rfl) (c _ _ rfl) (d _ _ rfl) (Qm.ag rfl) (QJ w) rfl)⟩,(QaV i rfl)⟩,(QJ (Qba i).2)⟩,(fun σ c d _=>Stp.nilCheckP rfl rfl (Qu hC.n rfl) (c _ _ rfl) x)⟩,(fun σ c d _=>Stp.fieldP rfl rfl (Qu hC.n rfl) (c _ _ rfl) (Qm.fo rfl rfl) rfl)⟩,(fun σ c d _=>Stp.loadP (b:=608) rfl rfl (Qu hC.n rfl) (c _ _ rfl) (d _ _ rfl) (Qm.ag rfl) (QJ y) rfl)⟩,(cb_ q)⟩,(QaV z rfl)⟩,(QJ (Qba z).2)⟩,(fun σ c d _=>Stp.nilCheckP rfl rfl (Qu hC.n rfl) (c _ _ rfl) S)⟩,(fun σ c d _=>Stp.fieldP rfl rfl (Qu hC.n rfl) (c _ _ rfl) (Qm.fo rfl rfl) rfl)⟩,(fun σ c d _=>Stp.loadP (b:=608) rfl rfl (Qu hC.n rfl) (c _ _ rfl) (d _ _ rfl) (Qm.ag rfl) (QJ T) rfl)⟩,(QaV A rfl)⟩,(QJ (Qba A).2)⟩,(fun σ c d _=>Stp.nilCheckP rfl rfl (Qu hC.n rfl) (c _ _ rfl) W)⟩,(fun σ c d _=>Stp.fieldP rfl rfl (Qu hC.n rfl) (c _ _ rfl) (Qm.fo rfl rfl) rfl)⟩,(fun σ c d _=>Stp.loadP (b:=608) rfl rfl (Qu hC.n rfl) (c _ _ rfl) (d _ _ rfl) (Qm.ag rfl) (QJ X) rfl)⟩ rfl (by kernel_rfl) rfl rfl rfl ?_
   refine tg_ hC [.K [6] [607,608]] rfl ?_
   cases h
   exact AK.met rfl
  refine AK.draw2 Qm hC mixed [.N,.N,.N,.a (.row ((Qw gA) e8)) none false,.a (.any (Qap gA 0 G) none) none false,.a (.any (Qap gA 1 G) none) none false,.a (.any (.I D.at_) none) none false,.N,.N,.N,.a (.row ((Qw gA) E)) none false,.a (.any (Qap gA 0 k) none) none false,.a (.any (Qap gA 1 k) none) none false,.a (.any (.I F.at_) none) none false,.N,.a .no (some ([],.b false)) false,.N,.N,.N,.a (.row ((Qw gA) J)) none false,.a (.any (Qap gA 0 t) none) none false,.a (.any (Qap gA 1 t) none) none false,.a (.any (.I L.at_) none) none false,.N,.N,.N,.a (.row ((Qw gA) M)) none false,.a (.any (Qap gA 0 u) none) none false,.a (.any (Qap gA 1 u) none) none false,.a (.any (.I O.at_) none) none false,.N,.a .no (some ([],.b false)) false,.N,.N,.N,.N,.N,.N,.N,.N,.N,.N,.N,.N,.N,.N,.N,.N,.N,.m .s] [] [] [6] [607,608] rfl rfl rfl ⟨⟨⟨⟨⟨⟨⟨⟨⟨⟨⟨⟨⟨⟨⟨⟨⟨⟨⟨⟨⟨⟨tt_,(QaV j rfl)⟩,(QJ (Qba j).2)⟩,(fun σ c d _=>Stp.nilCheckP rfl rfl (Qu hC.n rfl) (c _ _ rfl) B)⟩,(fun σ c d _=>Stp.fieldP rfl rfl (Qu hC.n rfl) (c _ _ rfl) (Qm.fo rfl rfl) rfl)⟩,(fun σ c d _=>Stp.loadP (b:=608) rfl rfl (Qu hC.n rfl) (c _ _ rfl) (d _ _ rfl) (Qm.ag rfl) (QJ l) rfl)⟩,(QaV e rfl)⟩,(QJ (Qba e).2)⟩,(fun σ c d _=>Stp.nilCheckP rfl rfl (Qu hC.n rfl) (c _ _ rfl) o)⟩,(fun σ c d _=>Stp.fieldP rfl rfl (Qu hC.n rfl) (c _ _ rfl) (Qm.fo rfl rfl) rfl)⟩,(fun σ c d _=>Stp.loadP (b:=608) rfl rfl (Qu hC.n rfl) (c _ _ rfl) (d _ _ rfl) (Qm.ag rfl) (QJ p) rfl)⟩,(cb_ f)⟩,(QaV g rfl)⟩,(QJ (Qba g).2)⟩,(fun σ c d _=>Stp.nilCheckP rfl rfl (Qu hC.n rfl) (c _ _ rfl) v)⟩,(fun σ c d _=>Stp.fieldP rfl rfl (Qu hC.n rfl) (c _ _ rfl) (Qm.fo rfl rfl) rfl)⟩,(fun σ c d _=>Stp.loadP (b:=608) rfl rfl (Qu hC.n rfl) (c _ _ rfl) (d _ _ rfl) (Qm.ag rfl) (QJ w) rfl)⟩,(QaV i rfl)⟩,(QJ (Qba i).2)⟩,(fun σ c d _=>Stp.nilCheckP rfl rfl (Qu hC.n rfl) (c _ _ rfl) x)⟩,(fun σ c d _=>Stp.fieldP rfl rfl (Qu hC.n rfl) (c _ _ rfl) (Qm.fo rfl rfl) rfl)⟩,(fun σ c d _=>Stp.loadP (b:=608) rfl rfl (Qu hC.n rfl) (c _ _ rfl) (d _ _ rfl) (Qm.ag rfl) (QJ y) rfl)⟩,(cb_ q)⟩ rfl (by kernel_rfl) rfl rfl rfl ?_
  refine tg_ hC [.K [6] [607,608]] rfl ?_
  cases h
  exact AK.met rfl
 rintro σ rfl
 replace h:Qa4 Z=some r:=h
 refine tg_ hC [.n 2] rfl ?_
 cases h
 exact d1_ rfl rfl ⟨rfl,rfl,tt_⟩
def QaE (c:(List (Option Nat)))(a:Int)(d:Int)(i:(List Qe)):Option ((List (Option Nat))×(List Qe)):=
 (idx c d).bind fun h=>
 (idx c a).bind fun j=>
 (idx c a).bind fun n=>
 (idx (c.set a.toNat h) d).bind fun m=>
 (idx ((c.set a.toNat h).set d.toNat j) a).bind fun k=>
 (idx ((c.set a.toNat h).set d.toNat j) d).bind fun l=>
 (k).bind fun e=>
 (i[e]?).bind fun b=>
 (l).bind fun f=>
 ((i.set e (Qe.mk b.id b.at_ a))[f]?).bind fun g=>
 some (((c.set a.toNat h).set d.toNat j),((i.set e (Qe.mk b.id b.at_ a)).set f (Qe.mk g.id g.at_ d)))
theorem QbU (gA:Nat→Nat)(o:(List (Option Nat)))(l:Int)(y:Int)(z:(List Qe)){r:((List (Option Nat))×(List Qe))}(h:QaE o l y z=some r):Qh prog 126 [.own 607 o.length,.I l,.I y] [(607,.arr 1 (o.map (Qw gA))),(608,.tbl gA 3 (z.map Qg))] (Qp (.tup []) [(607,.arr 1 (r.1.map (Qw gA))),(608,.tbl gA 3 (r.2.map Qg))]):=by
 refine Qh.walk 34 func126 rfl rfl rfl fun C hC=>?_
 obtain⟨A,p,h⟩:=Qf h
 obtain⟨F,q,h⟩:=Qf h
 obtain⟨G,s,h⟩:=Qf h
 obtain⟨B,f,h⟩:=Qf h
 refine tg_ hC [.n 1,.K [0,1,2] [607,608]] rfl ?_
 refine AK.draw2 Qm hC mixed [.N,.N,.a .no none true,.a .no none true,.N,.N,.N,.a (.row ((Qw gA) A)) none false,.N,.N,.N,.a (.row ((Qw gA) F)) none false,.N,.m (.st ((Qw gA) G) ((o.set l.toNat A).map (Qw gA))),.N,.m (.st ((Qw gA) B) (((o.set l.toNat A).set y.toNat F).map (Qw gA)))] [0,1,2] [608] [0,1,2] [607,608] rfl rfl rfl ⟨⟨⟨⟨⟨⟨⟨⟨tt_,(QaV p rfl)⟩,(QJ (Qba p).2)⟩,(QaV q rfl)⟩,(QJ (Qba q).2)⟩,(QaV s rfl)⟩,⟨(QJ (Qba s).2),QhV rfl⟩⟩,(QaV f (by simp))⟩,⟨(QJ (Qba f).2),QhV rfl⟩⟩ rfl (by kernel_rfl) rfl rfl rfl ?_
 obtain⟨D,g,h⟩:=Qf h
 obtain⟨E,i,h⟩:=Qf h
 obtain⟨d,t,h⟩:=Qf h
 obtain⟨e,u,h⟩:=Qf h
 obtain⟨j,v,h⟩:=Qf h
 obtain⟨w,x,h⟩:=Qf h
 refine tg_ hC [.n 1,.K [0,1,2] [607,608]] rfl ?_
 refine AK.draw2 Qm hC mixed [.N,.N,.N,.a (.row ((Qw gA) D)) none false,.N,.N,.N,.a (.row ((Qw gA) E)) none false,.N,.a .no none true,.a (.any (Qap gA 0 d) none) none false,.a (.any (Qap gA 2 d) none) none false,.m (.any ⟨[],[(608,.tbl gA 3 ((z.set d (Qe.mk e.id e.at_ l)).map Qg))],none⟩),.a (.any (Qap gA 0 j) none) none false,.a (.any (Qap gA 2 j) none) none false,.m (.any ⟨[],[(608,.tbl gA 3 (((z.set d (Qe.mk e.id e.at_ l)).set j (Qe.mk w.id w.at_ y)).map Qg))],none⟩)] [0,1,2] [607] [] [607,608] rfl rfl rfl ⟨⟨⟨⟨⟨⟨⟨⟨⟨⟨tt_,(QaV g (by simp))⟩,(QJ (Qba g).2)⟩,(QaV i (by simp))⟩,(QJ (Qba i).2)⟩,(fun σ c k _=>Stp.nilCheckP rfl rfl (Qu hC.n rfl) (c _ _ rfl) t)⟩,(fun σ c k _=>Stp.fieldP rfl rfl (Qu hC.n rfl) (c _ _ rfl) (Qm.fo rfl rfl) rfl)⟩,(fun σ c k=>Stp.storeP (b:=608) rfl rfl (c _ _ rfl) (k _ _ rfl) (QJ u) rfl (c _ _ rfl) rfl rfl (Qm.sz rfl) (QhV rfl))⟩,(fun σ c k _=>Stp.nilCheckP rfl rfl (Qu hC.n rfl) (c _ _ rfl) v)⟩,(fun σ c k _=>Stp.fieldP rfl rfl (Qu hC.n rfl) (c _ _ rfl) (Qm.fo rfl rfl) rfl)⟩,(fun σ c k=>Stp.storeP (b:=608) rfl rfl (c _ _ rfl) (k _ _ rfl) (QJ x) rfl (c _ _ rfl) rfl rfl (Qm.sz rfl) (QhV rfl))⟩ rfl (by kernel_rfl) rfl rfl rfl ?_
 refine tg_ hC [.K [] [607,608]] rfl ?_
 cases h
 refine AK.done ?_
 exact ex_ [] (an_ tt_ (Qay ⟨rfl,rfl,tt_⟩))
def QdL (a:Int)(b:(List (Option Nat)))(d:(List Qe)):Option Bool:=
 bif ((w64 (Int.tdiv (w64 (a-1)) 2))==a)then
 some true
 else
 (QaD b a (w64 (Int.tdiv (w64 (a-1)) 2)) d).bind fun c=>
 some (!c)
def Qbh (e:(List Qe))(a:(List (Option Nat)))(c:Int)(d:Bool):Option ((Int×(List Qe)×(List (Option Nat)))⊕((List Qe)×(List (Option Nat)))):=
 bif d then
 some (.inr (e,a))
 else
 (QaE a (w64 (Int.tdiv (w64 (c-1)) 2)) c e).bind fun b=>
 (chk (decide (b.1.length=a.length))).bind fun _=>
 some (.inl ((w64 (Int.tdiv (w64 (c-1)) 2)),b.2,b.1))
def QaH (c:Int)(d:(List Qe))(a:(List (Option Nat))):Option ((Int×(List Qe)×(List (Option Nat)))⊕((List Qe)×(List (Option Nat)))):=
 (QdL c a d).bind (fun b=>Qbh d a c b)
def QdM (a:(List Qe))(b:(List (Option Nat))):Option ((List (Option Nat))×(List Qe)):=
 some (b,a)
def QcR (a:(List (Option Nat)))(d:(List (Int×(Option Nat))))(b:Int)(c:(List Qe)):Option ((List (Option Nat))×(List Qe)):=
 (QM (fun st=>QaH st.1 st.2.1 st.2.2) (b,c,a)).bind (fun q=>QdM q.1 q.2)
theorem QgE (gA:Nat→Nat)(v:(List (Option Nat)))(j:(List (Int×(Option Nat))))(A:Int)(B:(List Qe)){r:((List (Option Nat))×(List Qe))}(h:QcR v j A B=some r):Qh prog 104 [.ifc 120 (.loc 607 0 0),.I A] [(607,.var [.own 605 v.length,.map 608]),(605,.arr 1 (v.map (Qw gA))),(608,.map (QA V.I (QE gA) j)),(609,.tbl gA 3 (B.map Qg))] (Qp (.tup []) [(605,.arr 1 (r.1.map (Qw gA))),(607,.var [.own 605 r.1.length,.map 608]),(608,.map (QA V.I (QE gA) j)),(609,.tbl gA 3 (r.2.map Qg))]):=by
 refine Qh.walk 23 func104 rfl rfl rfl fun C hC=>?_
 refine tg_ hC [.n 1,.K [0,1] [605,607,608,609]] rfl ?_
 obtain⟨w,k,h⟩:=Qf h
 refine AK.loop (body:=(fun st=>QaH st.1 st.2.1 st.2.2)) (fun st σ=>σ=⟨[(0,.ifc 120 (.loc 607 0 0)),(1,.I st.1)],[(605,.arr 1 (st.2.2.map (Qw gA))),(607,.var [.own 605 st.2.2.length,.map 608]),(608,.map (QA V.I (QE gA) j)),(609,.tbl gA 3 (st.2.1.map Qg))]⟩) (fun q e σ=>e=.exit 0∧σ=⟨[],[(605,.arr 1 (q.2.map (Qw gA))),(607,.var [.own 605 q.2.length,.map 608]),(608,.map (QA V.I (QE gA) j)),(609,.tbl gA 3 (q.1.map Qg))]⟩) k rfl ?_ ?_
 ·rintro ⟨t,u,a⟩ o σ rfl h
  refine Qa hC [.n 11] rfl ⟨tt_,(by decide)⟩ ?_
  obtain⟨g,l,h⟩:=Qf h
  replace h:Qbh u a t g=some o:=h
  refine AK.meetX (fun σ=>σ=⟨[(0,.ifc 120 (.loc 607 0 0)),(1,.I t),(4,.I (w64 (Int.tdiv (w64 (t-1)) 2))),(17,.b g)],[(605,.arr 1 (a.map (Qw gA))),(607,.var [.own 605 a.length,.map 608]),(608,.map (QA V.I (QE gA) j)),(609,.tbl gA 3 (u.map Qg))]⟩) ?_ ?_
  ·replace h:=l
   refine tg_ hC [.n 5] rfl ?_
   rcases QH h with⟨c,h⟩|⟨c,h⟩
   ·refine Qa hC [.S 11 (.b true),.n 7,.K [0,1,4,17] [605,607,608,609]] rfl (tc_ c) ?_
    cases h
    exact AK.met rfl
   obtain⟨x,m,h⟩:=Qf h
   refine Qa hC [.S 11 (.b false),.n 3,.cm (.mv 125 113) [(607,605),(608,609)] [(605,607),(609,608)] [] [.d,.d,.d] [(607,.arr 1 (a.map (Qw gA))),(608,.tbl gA 3 (u.map Qg))] (.b x),.n 3,.K [0,1,4,17] [605,607,608,609]] rfl ⟨⟨(tc_ c),Qgy⟩,(QbT gA _ _ _ _ m)⟩ ?_
   cases h
   exact AK.met rfl
  rintro σ rfl
  replace h:Qbh u a t g=some o:=h
  refine tg_ hC [.n 1] rfl ?_
  rcases QH h with⟨f,h⟩|⟨f,h⟩
  ·refine Qa hC [.T,.n 3,.K [] [605,607,608,609]] rfl ⟨tt_,f⟩ ?_
   cases h
   exact QaP rfl (an_ rfl rfl)
  obtain⟨i,p,h⟩:=Qf h
  obtain⟨s,h⟩:=Qb3 h
  refine Qa hC [.F,.n 7,.cm (.mv 126 113) [(607,605),(608,609)] [(605,607),(609,608)] [] [.d,.d,.d] [(607,.arr 1 (i.1.map (Qw gA))),(608,.tbl gA 3 (i.2.map Qg))] (.tup []),.O 607 (.var [.own 605 i.1.length,.map 608]),.n 7,.K [0,1] [605,607,608,609]] rfl ⟨⟨⟨⟨tt_,f⟩,Qgz⟩,(QbU gA _ _ _ _ p)⟩,(by simp [Qa3 s])⟩ ?_
  cases h
  exact QaT rfl rfl
 obtain⟨y,z⟩:=w
 replace h:QdM y z=some r:=h
 rintro e σ ⟨rfl,rfl⟩
 refine tg_ hC [.n 1,.K [] [605,607,608,609]] rfl ?_
 cases h
 refine AK.done ?_
 exact ex_ [] (an_ tt_ (Qay ⟨rfl,rfl,rfl,rfl,tt_⟩))
def Qcj (d:(List (Option Nat)))(b:(List (Int×(Option Nat))))(e:(Option Nat))(f:(List Qe)):Option ((List (Option Nat))×(List Qe)):=
 (Qcx d b e f).bind fun a=>
 (QaG a.1 a.2).bind fun g=>
 (QcR a.1 b (w64 (g-1)) a.2).bind fun c=>
 some (c.1,c.2)
theorem QfN (gA:Nat→Nat)(c:(List (Option Nat)))(a:(List (Int×(Option Nat))))(j:(Option Nat))(k:(List Qe)){r:((List (Option Nat))×(List Qe))}(h:Qcj c a j k=some r):Qh prog 85 [.ifc 120 (.loc 607 0 0),.ifc 116 (QE gA j)] [(607,.var [.own 605 c.length,.map 608]),(605,.arr 1 (c.map (Qw gA))),(608,.map (QA V.I (QE gA) a)),(609,.tbl gA 3 (k.map Qg))] (Qp (.tup []) [(605,.arr 1 (r.1.map (Qw gA))),(607,.var [.own 605 r.1.length,.map 608]),(608,.map (QA V.I (QE gA) a)),(609,.tbl gA 3 (r.2.map Qg))]):=by
 refine Qh.walk 12 func85 rfl rfl rfl fun C hC=>?_
 obtain⟨b,e,h⟩:=Qf h
 obtain⟨l,f,h⟩:=Qf h
 obtain⟨g,i,h⟩:=Qf h
 refine Qa hC [.n 4,.cm (.me 128) [(607,607),(605,605),(608,608),(609,609)] [(605,605),(607,607),(608,608),(609,609)] [605] [.d,.d] [(605,.arr 1 (b.1.map (Qw gA))),(607,.var [.own 605 b.1.length,.map 608]),(608,.map (QA V.I (QE gA) a)),(609,.tbl gA 3 (b.2.map Qg))] (.tup []),.n 5,.cm (.mv 124 113) [(607,605),(608,609)] [(605,607),(609,608)] [] [.d] [(607,.arr 1 (b.1.map (Qw gA))),(608,.tbl gA 3 (b.2.map Qg))] (.I l),.n 1,.cm (.fn) [(607,607),(605,605),(608,608),(609,609)] [(605,605),(607,607),(608,608),(609,609)] [605] [.d,.d] [(605,.arr 1 (g.1.map (Qw gA))),(607,.var [.own 605 g.1.length,.map 608]),(608,.map (QA V.I (QE gA) a)),(609,.tbl gA 3 (g.2.map Qg))] (.tup []),.n 1,.K [] [605,607,608,609]] rfl ⟨⟨⟨⟨⟨tt_,QkO⟩,(QfW gA _ _ _ _ e)⟩,Qja⟩,(QdK gA _ _ f)⟩,(QgE gA _ _ _ _ i)⟩ ?_
 cases h
 refine AK.done ?_
 exact ex_ [] (an_ tt_ (Qay ⟨rfl,rfl,rfl,rfl,tt_⟩))
def Qbw (d:(List (Option Nat)))(c:(List (Int×(Option Nat))))(a:Int)(at_4:Int)(b:(List Qe)):Option (Int×(List (Option Nat))×(List Qe)×(List (Int×(Option Nat)))):=
 bif ((Qbb c a).getD none).isSome then
 some (5,d,b,c)
 else
 (Qbr d c b).bind fun f=>
 bif (f==4096)then
 some (2,d,b,c)
 else
 (chk (d.all (okP b.length))).bind fun _=>
 (chk (c.all (fun q=>okP b.length q.2))).bind fun _=>
 (Qcj d (Qc7 ltI c a (some b.length)) (some b.length) (b++[(Qe.mk a at_4 0)])).bind fun e=>
 some (0,e.1,e.2,(Qc7 ltI c a (some b.length)))
theorem QfX (gA:Nat→Nat)(s:(List (Option Nat)))(i:(List (Int×(Option Nat))))(a:Int)(at_4:Int)(j:(List Qe)){r:(Int×(List (Option Nat))×(List Qe)×(List (Int×(Option Nat))))}(h:Qbw s i a at_4 j=some r):Qh prog 45 [.loc 607 0 0,.I a,.I at_4] [(607,.var [.own 605 s.length,.map 608]),(605,.arr 1 (s.map (Qw gA))),(608,.map (QA V.I (QE gA) i)),(606,.tbl gA 3 (j.map Qg))] (fun v hs=>∃gA:Nat→Nat,True∧Qp (.I r.1) [(605,.arr 1 (r.2.1.map (Qw gA))),(606,.tbl gA 3 (r.2.2.1.map Qg)),(607,.var [.own 605 r.2.1.length,.map 608]),(608,.map (QA V.I (QE gA) r.2.2.2))] v hs):=by
 refine Qh.walk 37 func45 rfl rfl rfl fun C hC=>?_
 refine Qa hC [.n 14,.o (.any (QE gA ((Qbb i a).getD none)) none),.o (.any (.b ((Qbb i a).getD none).isSome) none),.n 3] rfl ⟨⟨tt_,(fun σ t D _=>Stp.lookup (e:=V.I) (f:=(QE gA)) (l:=i) (k:=a) (z:=none) rfl rfl (Qu hC.n rfl) (t _ _ rfl) (D _ _ rfl) (t _ _ rfl) QkB QkA Qm8 rfl)⟩,(fun σ t D _=>Stp.neqNilP rfl rfl (Qu hC.n rfl) (t _ _ rfl) (t _ _ rfl) Qm7)⟩ ?_
 rcases QH h with⟨c,h⟩|⟨c,h⟩
 ·refine Qa hC [.T,.n 8,.K [6] [605,606,607,608]] rfl ⟨tt_,c⟩ ?_
  cases h
  exact AK.done (ex_ [_] (an_ (an_ rfl tt_) (ex_ _ (an_ tt_ (Qay ⟨rfl,rfl,rfl,rfl,tt_⟩)))))
 obtain⟨B,u,h⟩:=Qf h
 refine Qa hC [.F,.n 3,.cm (.fn) [(607,607),(605,605),(608,608),(609,606)] [(605,605),(607,607),(608,608),(606,609)] [605] [.d] [(605,.arr 1 (s.map (Qw gA))),(607,.var [.own 605 s.length,.map 608]),(608,.map (QA V.I (QE gA) i)),(609,.tbl gA 3 (j.map Qg))] (.I B),.n 4] rfl ⟨⟨tt_,c⟩,(Qeu gA _ _ _ u)⟩ ?_
 rcases QH h with⟨g,h⟩|⟨g,h⟩
 ·refine Qa hC [.T,.n 8,.K [6] [605,606,607,608]] rfl ⟨tt_,g⟩ ?_
  cases h
  exact AK.done (ex_ [_] (an_ (an_ rfl tt_) (ex_ _ (an_ tt_ (Qay ⟨rfl,rfl,rfl,rfl,tt_⟩)))))
 obtain⟨w,h⟩:=Qb3 h
 obtain⟨y,h⟩:=Qb3 h
 refine Qa hC [.F,.n 7,.v .no [] (.agg (Qg (Qe.mk a at_4 0)))] rfl ⟨⟨tt_,g⟩,rfl⟩ ?_
 refine AK.boxP (b:=606) (n:=j.length) (rsN:=(j++[(Qe.mk a at_4 0)]).map Qg) rfl rfl rfl (Qu hC.n rfl) rfl rfl rfl rfl rfl rfl Qj (Qcb (m:=[(Qe.mk a at_4 0)])) fun gA p=>?_
 obtain⟨q,A,h⟩:=Qf h
 refine Qa hC [.O 605 (.arr 1 (s.map (Qw gA))),.O 608 (.map (QA V.I (QE gA) i)),.n 11,.x (fun σ=>σ.set 608 (.map (QA V.I (QE gA) (Qc7 ltI i a (some j.length))))),.n 10,.cm (.fn) [(607,607),(605,605),(608,608),(609,606)] [(605,605),(607,607),(608,608),(606,609)] [605] [.d,.d] [(605,.arr 1 (q.1.map (Qw gA))),(607,.var [.own 605 q.1.length,.map 608]),(608,.map (QA V.I (QE gA) (Qc7 ltI i a (some j.length)))),(609,.tbl gA 3 (q.2.map Qg))] (.tup []),.n 8,.K [6] [605,606,607,608]] rfl ⟨⟨⟨⟨tt_,(congrArg (Ob.arr 1) (QmL p w))⟩,(congrArg Ob.map (QmM p y))⟩,(Stp.mapUpdate (e:=V.I) (f:=(QE gA)) (l:=i) (k:=a) (v:=(some j.length)) ltI rfl rfl rfl rfl rfl rfl QkB QkA rfl)⟩,(QfN gA _ _ _ _ A)⟩ ?_
 cases h
 exact AK.done (ex_ [_] (an_ (an_ rfl tt_) (ex_ _ (an_ tt_ (Qay ⟨rfl,rfl,rfl,rfl,tt_⟩)))))
def Qbl (a:(List (Option Nat)))(j:(List (Int×(Option Nat))))(b:(List Qe)):Option (Int×Int×Bool):=
 (Qbr a j b).bind fun c=>
 bif (c==0)then
 some (0,0,false)
 else
 (idx a 0).bind fun d=>
 (d).bind fun e=>
 (b[e]?).bind fun f=>
 (idx a 0).bind fun g=>
 (g).bind fun h=>
 (b[h]?).bind fun i=>
 some (f.id,i.at_,true)
theorem Qd6 (gA:Nat→Nat)(i:(List (Option Nat)))(v:(List (Int×(Option Nat))))(w:(List Qe)){r:(Int×Int×Bool)}(h:Qbl i v w=some r):Qh prog 86 [.loc 607 0 0] [(607,.var [.own 605 i.length,.map 608]),(605,.arr 1 (i.map (Qw gA))),(608,.map (QA V.I (QE gA) v)),(609,.tbl gA 3 (w.map Qg))] (Qp (.tup [.I r.1,.I r.2.1,.b r.2.2]) [(605,.arr 1 (i.map (Qw gA))),(607,.var [.own 605 i.length,.map 608]),(608,.map (QA V.I (QE gA) v)),(609,.tbl gA 3 (w.map Qg))]):=by
 refine Qh.walk 26 func86 rfl rfl rfl fun C hC=>?_
 obtain⟨x,k,h⟩:=Qf h
 refine Qa hC [.n 11,.cm (.fn) [(607,607),(605,605),(608,608),(609,609)] [(605,605),(607,607),(608,608),(609,609)] [605] [.d] [(605,.arr 1 (i.map (Qw gA))),(607,.var [.own 605 i.length,.map 608]),(608,.map (QA V.I (QE gA) v)),(609,.tbl gA 3 (w.map Qg))] (.I x),.n 3] rfl ⟨tt_,(Qeu gA _ _ _ k)⟩ ?_
 rcases QH h with⟨c,h⟩|⟨c,h⟩
 ·refine Qa hC [.T,.n 9,.K [2,3,4] [605,607,608,609]] rfl ⟨tt_,c⟩ ?_
  cases h
  exact AK.done (ex_ [_,_,_] (an_ (an_ rfl (an_ rfl (an_ rfl tt_))) (Qay ⟨rfl,rfl,rfl,rfl,tt_⟩)))
 obtain⟨y,f,h⟩:=Qf h
 obtain⟨l,o,h⟩:=Qf h
 obtain⟨z,p,h⟩:=Qf h
 obtain⟨A,g,h⟩:=Qf h
 obtain⟨q,t,h⟩:=Qf h
 obtain⟨B,u,h⟩:=Qf h
 refine Qa hC [.F,.n 3,.K [0,2,3,4] [605,607,608,609]] rfl ⟨tt_,c⟩ ?_
 refine AK.draw2 Qm hC mixed [.N,.N,.N,.N,.N,.a (.row ((Qw gA) y)) none false,.a (.any (Qap gA 0 l) none) none false,.a (.any (Qap gA 0 l) none) none false,.a (.any (.I z.id) none) none false,.a .no none true,.a .no none true,.a .no none true,.a .no none true,.a .no none true,.a (.row ((Qw gA) A)) none true,.a (.any (Qap gA 0 q) none) none true,.a (.any (Qap gA 1 q) none) none true,.a (.any (.I B.at_) none) none true,.m .s,.m .s,.m .s] [0,4] [605,607,608,609] [2,3,4] [605,607,608,609] rfl rfl rfl ⟨⟨⟨⟨⟨⟨⟨⟨⟨⟨tt_,(QaV f rfl)⟩,(QJ (Qba f).2)⟩,(fun σ e j _=>Stp.nilCheckP rfl rfl (Qu hC.n rfl) (e _ _ rfl) o)⟩,(fun σ e j _=>Stp.fieldP rfl rfl (Qu hC.n rfl) (e _ _ rfl) (Qm.fo rfl rfl) rfl)⟩,(fun σ e j _=>Stp.loadP (b:=609) rfl rfl (Qu hC.n rfl) (e _ _ rfl) (j _ _ rfl) (Qm.ag rfl) (QJ p) rfl)⟩,(QaV g rfl)⟩,(QJ (Qba g).2)⟩,(fun σ e j _=>Stp.nilCheckP rfl rfl (Qu hC.n rfl) (e _ _ rfl) t)⟩,(fun σ e j _=>Stp.fieldP rfl rfl (Qu hC.n rfl) (e _ _ rfl) (Qm.fo rfl rfl) rfl)⟩,(fun σ e j _=>Stp.loadP (b:=609) rfl rfl (Qu hC.n rfl) (e _ _ rfl) (j _ _ rfl) (Qm.ag rfl) (QJ u) rfl)⟩ rfl (by kernel_rfl) rfl rfl rfl ?_
 refine tg_ hC [.n 2,.K [2,3,4] [605,607,608,609]] rfl ?_
 cases h
 exact AK.done (ex_ [_,_,_] (an_ (an_ rfl (an_ rfl (an_ rfl tt_))) (Qay ⟨rfl,rfl,rfl,rfl,tt_⟩)))
def Qai (a:(List (Option Nat)))(b:Int)(c:(List Qe))(d:Int):Option ((Int×(List Qe)×(List (Option Nat)))⊕(Int×(List Qe)×(List (Option Nat)))):=
 (QaD a d b c).bind fun f=>
 bif (!f)then
 some (.inr (b,c,a))
 else
 (QaE a b d c).bind fun e=>
 (chk (decide (e.1.length=a.length))).bind fun _=>
 some (.inl (d,e.2,e.1))
def Qdg (a:Int)(e:Int)(b:(List (Option Nat)))(c:(List Qe)):Option Bool:=
 bif (decide ((w64 ((w64 ((w64 (2*a))+1))+1))<e))then
 (QaD b (w64 ((w64 ((w64 (2*a))+1))+1)) (w64 ((w64 (2*a))+1)) c).bind fun d=>
 some d
 else
 some false
def QaA (b:(List (Option Nat)))(a:Int)(c:(List Qe))(d:Bool):Option ((Int×(List Qe)×(List (Option Nat)))⊕(Int×(List Qe)×(List (Option Nat)))):=
 bif d then
 Qai b a c (w64 ((w64 ((w64 (2*a))+1))+1))
 else
 Qai b a c (w64 ((w64 (2*a))+1))
def QV (e:Int)(a:Int)(b:(List Qe))(c:(List (Option Nat))):Option ((Int×(List Qe)×(List (Option Nat)))⊕(Int×(List Qe)×(List (Option Nat)))):=
 bif ((decide (e≤(w64 ((w64 (2*a))+1))))||(decide ((w64 ((w64 (2*a))+1))<0)))then
 some (.inr (a,b,c))
 else
 (Qdg a e c b).bind (fun d=>QaA c a b d)
def QbK (d:Int)(a:Int)(b:(List Qe))(c:(List (Option Nat))):Option (Bool×(List (Option Nat))×(List Qe)):=
 some ((decide (d<a)),c,b)
def Qck (b:(List (Option Nat)))(e:(List (Int×(Option Nat))))(a:Int)(c:Int)(d:(List Qe)):Option (Bool×(List (Option Nat))×(List Qe)):=
 (QM (fun st=>QV c st.1 st.2.1 st.2.2) (a,d,b)).bind (fun q=>QbK a q.1 q.2.1 q.2.2)
theorem QfO (gA:Nat→Nat)(D:(List (Option Nat)))(p:(List (Int×(Option Nat))))(s:Int)(i:Int)(N:(List Qe)){r:(Bool×(List (Option Nat))×(List Qe))}(h:Qck D p s i N=some r):Qh prog 105 [.ifc 120 (.loc 607 0 0),.I s,.I i] [(607,.var [.own 605 D.length,.map 608]),(605,.arr 1 (D.map (Qw gA))),(608,.map (QA V.I (QE gA) p)),(609,.tbl gA 3 (N.map Qg))] (Qp (.b r.1) [(605,.arr 1 (r.2.1.map (Qw gA))),(607,.var [.own 605 r.2.1.length,.map 608]),(608,.map (QA V.I (QE gA) p)),(609,.tbl gA 3 (r.2.2.map Qg))]):=by
 refine Qh.walk 48 func105 rfl rfl rfl fun C hC=>?_
 refine tg_ hC [.n 13,.K [0,1,2,7] [605,607,608,609]] rfl ?_
 obtain⟨E,w,h⟩:=Qf h
 refine AK.loop (body:=(fun st=>QV i st.1 st.2.1 st.2.2)) (fun st σ=>σ=⟨[(0,.ifc 120 (.loc 607 0 0)),(1,.I s),(2,.I i),(7,.I st.1)],[(605,.arr 1 (st.2.2.map (Qw gA))),(607,.var [.own 605 st.2.2.length,.map 608]),(608,.map (QA V.I (QE gA) p)),(609,.tbl gA 3 (st.2.1.map Qg))]⟩) (fun q e σ=>e=.exit 0∧σ=⟨[(1,.I s),(7,.I q.1)],[(605,.arr 1 (q.2.2.map (Qw gA))),(607,.var [.own 605 q.2.2.length,.map 608]),(608,.map (QA V.I (QE gA) p)),(609,.tbl gA 3 (q.2.1.map Qg))]⟩) w rfl ?_ ?_
 ·rintro ⟨a,f,c⟩ o σ rfl h
  refine tg_ hC [.n 11] rfl ?_
  refine AK.meetX (fun σ=>σ=⟨[(0,.ifc 120 (.loc 607 0 0)),(1,.I s),(2,.I i),(7,.I a),(8,.I (w64 ((w64 (2*a))+1))),(21,.b ((decide (i≤(w64 ((w64 (2*a))+1))))||(decide ((w64 ((w64 (2*a))+1))<0))))],[(605,.arr 1 (c.map (Qw gA))),(607,.var [.own 605 c.length,.map 608]),(608,.map (QA V.I (QE gA) p)),(609,.tbl gA 3 (f.map Qg))]⟩) ?_ ?_
  ·refine tg_ hC [.n 5] rfl ?_
   rcases Qdz (decide (i≤(w64 ((w64 (2*a))+1))))with g | g
   ·refine Qa hC [.S 18 (.b true),.n 4,.S 21 (.b ((decide (i≤(w64 ((w64 (2*a))+1))))||(decide ((w64 ((w64 (2*a))+1))<0)))),.K [0,1,2,7,8,21] [605,607,608,609]] rfl ⟨(tc_ g),(congrArg V.b (orT g rfl))⟩ ?_
    exact AK.met rfl
   refine Qa hC [.S 18 (.b false),.n 4,.S 21 (.b ((decide (i≤(w64 ((w64 (2*a))+1))))||(decide ((w64 ((w64 (2*a))+1))<0)))),.K [0,1,2,7,8,21] [605,607,608,609]] rfl ⟨(tc_ g),(congrArg V.b (orF g rfl))⟩ ?_
   exact AK.met rfl
  rintro σ rfl
  refine tg_ hC [.n 1] rfl ?_
  refine bg_ h (fun j h=>Qa hC [.T,.n 3,.K [1,7] [605,607,608,609]] rfl ⟨tt_,j⟩ ?_) fun j h=>Qa hC [.F,.n 8] rfl ⟨tt_,j⟩ ?_
  ·cases h
   exact QaP rfl (an_ rfl rfl)
  refine AK.meet (fun σ=>∃t:Int,σ=⟨[(0,.ifc 120 (.loc 607 0 0)),(1,.I s),(2,.I i),(7,.I a),(9,.I t)],[(605,.arr 1 (c.map (Qw gA))),(607,.var [.own 605 c.length,.map 608]),(608,.map (QA V.I (QE gA) p)),(609,.tbl gA 3 (f.map Qg))]⟩∧Qai c a f t=some o) ?_ ?_
  ·refine tg_ hC [.n 8] rfl ?_
   obtain⟨u,x,h⟩:=Qf h
   replace h:QaA c a f u=some o:=h
   refine AK.meetX (fun σ=>σ=⟨[(0,.ifc 120 (.loc 607 0 0)),(1,.I s),(2,.I i),(7,.I a),(9,.I (w64 ((w64 (2*a))+1))),(10,.I (w64 ((w64 ((w64 (2*a))+1))+1))),(33,.b u)],[(605,.arr 1 (c.map (Qw gA))),(607,.var [.own 605 c.length,.map 608]),(608,.map (QA V.I (QE gA) p)),(609,.tbl gA 3 (f.map Qg))]⟩) ?_ ?_
   ·replace h:=x
    refine tg_ hC [.n 5] rfl ?_
    rcases QH h with⟨k,h⟩|⟨k,h⟩
    ·obtain⟨G,y,h⟩:=Qf h
     refine Qa hC [.S 28 (.b true),.n 3,.cm (.mv 125 113) [(607,605),(608,609)] [(605,607),(609,608)] [] [.d,.d,.d] [(607,.arr 1 (c.map (Qw gA))),(608,.tbl gA 3 (f.map Qg))] (.b G),.n 2,.K [0,1,2,7,9,10,33] [605,607,608,609]] rfl ⟨⟨(tc_ k),Qgy⟩,(QbT gA _ _ _ _ y)⟩ ?_
     cases h
     exact AK.met rfl
    refine Qa hC [.S 28 (.b false),.n 6,.K [0,1,2,7,9,10,33] [605,607,608,609]] rfl (tc_ k) ?_
    cases h
    exact AK.met rfl
   rintro σ rfl
   replace h:QaA c a f u=some o:=h
   refine tg_ hC [.n 1] rfl ?_
   refine bg_ h (fun l h=>Qa hC [.T,.n 4,.K [0,1,2,7,9] [605,607,608,609]] rfl ⟨tt_,l⟩ ?_) fun l h=>Qa hC [.F,.n 1,.K [0,1,2,7,9] [605,607,608,609]] rfl ⟨tt_,l⟩ ?_
   ·exact AK.met (ex_ _ (an_ rfl h))
   exact AK.met (ex_ _ (an_ rfl h))
  rintro σ ⟨t,rfl,h⟩
  obtain⟨H,z,h⟩:=Qf h
  refine Qa hC [.n 6,.cm (.mv 125 113) [(607,605),(608,609)] [(605,607),(609,608)] [] [.d,.d,.d] [(607,.arr 1 (c.map (Qw gA))),(608,.tbl gA 3 (f.map Qg))] (.b H),.n 3] rfl ⟨⟨tt_,Qgy⟩,(QbT gA _ _ _ _ z)⟩ ?_
  rcases QH h with⟨m,h⟩|⟨m,h⟩
  ·refine Qa hC [.T,.n 3,.K [1,7] [605,607,608,609]] rfl ⟨tt_,m⟩ ?_
   cases h
   exact QaP rfl (an_ rfl rfl)
  obtain⟨v,A,h⟩:=Qf h
  obtain⟨B,h⟩:=Qb3 h
  refine Qa hC [.F,.n 7,.cm (.mv 126 113) [(607,605),(608,609)] [(605,607),(609,608)] [] [.d,.d,.d] [(607,.arr 1 (v.1.map (Qw gA))),(608,.tbl gA 3 (v.2.map Qg))] (.tup []),.O 607 (.var [.own 605 v.1.length,.map 608]),.n 7,.K [0,1,2,7] [605,607,608,609]] rfl ⟨⟨⟨⟨tt_,m⟩,Qgz⟩,(QbU gA _ _ _ _ A)⟩,(by simp [Qa3 B])⟩ ?_
  cases h
  exact QaT rfl rfl
 obtain⟨J,L,M⟩:=E
 replace h:QbK s J L M=some r:=h
 rintro e σ ⟨rfl,rfl⟩
 refine tg_ hC [.n 11] rfl ?_
 cases h
 exact d1_ rfl rfl ⟨rfl,rfl,rfl,rfl,tt_⟩
def QcS (a:(List (Option Nat)))(c:(List (Int×(Option Nat))))(d:(List Qe)):Option ((Option Nat)×(List (Option Nat))):=
 (idx a (w64 ((a.length:Int)-1))).bind fun b=>
 (chk (decide (0≤(w64 ((a.length:Int)-1)))&&decide ((w64 ((a.length:Int)-1)).toNat≤a.length))).bind fun _=>
 some (b,(a.take (w64 ((a.length:Int)-1)).toNat))
theorem QgF (gA:Nat→Nat)(b:(List (Option Nat)))(e:(List (Int×(Option Nat))))(f:(List Qe)){r:((Option Nat)×(List (Option Nat)))}(h:QcS b e f=some r):Qh prog 127 [.loc 607 0 0] [(607,.var [.own 605 b.length,.map 608]),(605,.arr 1 (b.map (Qw gA))),(608,.map (QA V.I (QE gA) e)),(609,.tbl gA 3 (f.map Qg))] (Qp (.ifc 116 (QE gA r.1)) [(605,.arr 1 (r.2.map (Qw gA))),(607,.var [.own 605 r.2.length,.map 608]),(608,.map (QA V.I (QE gA) e)),(609,.tbl gA 3 (f.map Qg))]):=by
 refine Qh.walk 27 func127 rfl rfl rfl fun C hC=>?_
 obtain⟨j,d,h⟩:=Qf h
 refine tg_ hC [.n 6,.K [0] [605,607,608,609]] rfl ?_
 refine AK.draw2 Qm hC mixed [.N,.N,.N,.N,.N,.N,.N,.N,.N,.a (.row ((Qw gA) j)) none false,.N] [] [] [0,3] [605,607,608,609] rfl rfl rfl ⟨⟨tt_,(QaV d rfl)⟩,(QJ (Qba d).2)⟩ rfl (by kernel_rfl) rfl rfl rfl ?_
 obtain⟨c,h⟩:=Qb3 h
 refine tg_ hC [.n 2,.K [0,3] [605,607,608,609]] rfl ?_
 have g:(w64 ((b.length:Int)-1)).toNat=(b.take (w64 ((b.length:Int)-1)).toNat).length:=by rw [Qf0,Nat.min_eq_left (Qa3 (Qi1 c))]
 refine AK.draw2 Qm hC mixed [.a .no none true,.N,.N,.N,.N,.N,.N,.N,.N,.m (.any ⟨[],[(605,.arr 1 ((b.take (w64 ((b.length:Int)-1)).toNat).map (Qw gA)))],some (23,.own 605 (w64 ((b.length:Int)-1)).toNat)⟩),.N,.m .s] [0,3] [607,608,609] [3] [605,607,608,609] rfl rfl rfl ⟨tt_,(fun σ i k=>Stp.sliceO rfl rfl (Qu hC.n rfl) (i _ _ rfl) (k _ _ rfl) (Qm.es rfl) Bnd.no (Bnd.val (i _ _ rfl) (Qa3 (Qi0 c)) rfl) (Qa3 (Qi1 c)) (by simp))⟩ rfl (by kernel_rfl) rfl rfl rfl ?_
 refine Qa hC [.O 607 (.var [.own 605 (w64 ((b.length:Int)-1)).toNat,.map 608]),.n 9,.O 607 (.var [.own 605 (b.take (w64 ((b.length:Int)-1)).toNat).length,.map 608])] rfl ⟨⟨tt_,rfl⟩,(congrArg (fun n=>Ob.var [.own 605 n,.map 608]) (by rw [←g]))⟩ ?_
 cases h
 exact d1_ rfl rfl ⟨rfl,rfl,rfl,rfl,tt_⟩
def Qbx (c:(List (Option Nat)))(e:(List (Int×(Option Nat))))(f:(List Qe)):Option ((Option Nat)×(List (Option Nat))×(List Qe)):=
 (QaG c f).bind fun g=>
 (QaE c 0 (w64 (g-1)) f).bind fun d=>
 (chk (decide (d.1.length=c.length))).bind fun _=>
 (Qck d.1 e 0 (w64 (g-1)) d.2).bind fun a=>
 (QcS a.2.1 e a.2.2).bind fun b=>
 some (b.1,b.2,a.2.2)
theorem QfY (gA:Nat→Nat)(i:(List (Option Nat)))(e:(List (Int×(Option Nat))))(j:(List Qe)){r:((Option Nat)×(List (Option Nat))×(List Qe))}(h:Qbx i e j=some r):Qh prog 87 [.ifc 120 (.loc 607 0 0)] [(607,.var [.own 605 i.length,.map 608]),(605,.arr 1 (i.map (Qw gA))),(608,.map (QA V.I (QE gA) e)),(609,.tbl gA 3 (j.map Qg))] (Qp (.ifc 116 (QE gA r.1)) [(605,.arr 1 (r.2.1.map (Qw gA))),(607,.var [.own 605 r.2.1.length,.map 608]),(608,.map (QA V.I (QE gA) e)),(609,.tbl gA 3 (r.2.2.map Qg))]):=by
 refine Qh.walk 15 func87 rfl rfl rfl fun C hC=>?_
 obtain⟨p,k,h⟩:=Qf h
 obtain⟨l,m,h⟩:=Qf h
 obtain⟨o,h⟩:=Qb3 h
 obtain⟨a,f,h⟩:=Qf h
 obtain⟨c,g,h⟩:=Qf h
 refine Qa hC [.n 8,.cm (.mv 124 113) [(607,605),(608,609)] [(605,607),(609,608)] [] [.d] [(607,.arr 1 (i.map (Qw gA))),(608,.tbl gA 3 (j.map Qg))] (.I p),.n 8,.cm (.mv 126 113) [(607,605),(608,609)] [(605,607),(609,608)] [] [.d,.d,.d] [(607,.arr 1 (l.1.map (Qw gA))),(608,.tbl gA 3 (l.2.map Qg))] (.tup []),.O 607 (.var [.own 605 l.1.length,.map 608]),.n 6,.cm (.fn) [(607,607),(605,605),(608,608),(609,609)] [(605,605),(607,607),(608,608),(609,609)] [605] [.d,.d,.d] [(605,.arr 1 (a.2.1.map (Qw gA))),(607,.var [.own 605 a.2.1.length,.map 608]),(608,.map (QA V.I (QE gA) e)),(609,.tbl gA 3 (a.2.2.map Qg))] (.b a.1),.n 5,.cm (.me 127) [(607,607),(605,605),(608,608),(609,609)] [(605,605),(607,607),(608,608),(609,609)] [605] [.d] [(605,.arr 1 (c.2.map (Qw gA))),(607,.var [.own 605 c.2.length,.map 608]),(608,.map (QA V.I (QE gA) e)),(609,.tbl gA 3 (a.2.2.map Qg))] (.ifc 116 (QE gA c.1)),.n 4] rfl ⟨⟨⟨⟨⟨⟨⟨⟨tt_,Qja⟩,(QdK gA _ _ k)⟩,Qgz⟩,(QbU gA _ _ _ _ m)⟩,(by simp [Qa3 o])⟩,(QfO gA _ _ _ _ _ f)⟩,Qlt⟩,(QgF gA _ _ _ g)⟩ ?_
 cases h
 exact d1_ rfl rfl ⟨rfl,rfl,rfl,rfl,tt_⟩
def Qaq (f:Int)(a:Int)(at_14:Int)(g:Bool)(d:(List Int))(b:(List (Int×(Option Nat))))(h:(List Qe))(i:(List (Option Nat))):Option ((Int×Int×Bool×(List Int)×(List (Int×(Option Nat)))×(List Qe)×(List (Option Nat)))⊕((List Int)×(List (Int×(Option Nat)))×(List Qe)×(List (Option Nat)))):=
 bif (g&&(decide (at_14≤f)))then
 (chk (decide (d.length+([a]:List Int).length≤4294967296))).bind fun _=>
 (Qbx i b h).bind fun c=>
 (Qbl c.2.1 (QcO b a) c.2.2).bind fun e=>
 some (.inl (e.1,e.2.1,e.2.2,(d++([a]:List Int)),(QcO b a),c.2.2,c.2.1))
 else
 some (.inr (d,b,h,i))
def Qev (a:(List Int))(b:(List (Int×(Option Nat))))(c:(List Qe))(d:(List (Option Nat))):Option ((List Int)×(List (Option Nat))×(List (Int×(Option Nat)))×(List Qe)):=
 some (a,d,b,c)
def Qdx (c:(List (Option Nat)))(d:(List (Int×(Option Nat))))(a:Int)(e:(List Qe)):Option ((List Int)×(List (Option Nat))×(List (Int×(Option Nat)))×(List Qe)):=
 (Qbl c d e).bind fun b=>
 (QM (fun st=>Qaq a st.1 st.2.1 st.2.2.1 st.2.2.2.1 st.2.2.2.2.1 st.2.2.2.2.2.1 st.2.2.2.2.2.2) (b.1,b.2.1,b.2.2,([]:List Int),d,e,c)).bind (fun q=>Qev q.1 q.2.1 q.2.2.1 q.2.2.2)
theorem Qhz (gA:Nat→Nat)(u:(List (Option Nat)))(D:(List (Int×(Option Nat))))(a:Int)(E:(List Qe)){r:((List Int)×(List (Option Nat))×(List (Int×(Option Nat)))×(List Qe))}(h:Qdx u D a E=some r):Qh prog 46 [.loc 607 0 0,.I a] [(607,.var [.own 605 u.length,.map 608]),(605,.arr 1 (u.map (Qw gA))),(608,.map (QA V.I (QE gA) D)),(609,.tbl gA 3 (E.map Qg))] (Qp (.own 600 r.1.length) [(600,.arr 1 (r.1.map Qo)),(605,.arr 1 (r.2.1.map (Qw gA))),(607,.var [.own 605 r.2.1.length,.map 608]),(608,.map (QA V.I (QE gA) r.2.2.1)),(609,.tbl gA 3 (r.2.2.2.map Qg))]):=by
 refine Qh.walk 42 func46 rfl rfl rfl fun C hC=>?_
 obtain⟨G,H,h⟩:=Qf h
 refine Qa hC [.n 14,.cm (.fn) [(607,607),(605,605),(608,608),(609,609)] [(605,605),(607,607),(608,608),(609,609)] [605] [.d] [(605,.arr 1 (u.map (Qw gA))),(607,.var [.own 605 u.length,.map 608]),(608,.map (QA V.I (QE gA) D)),(609,.tbl gA 3 (E.map Qg))] (.tup [.I G.1,.I G.2.1,.b G.2.2]),.n 10,.adopt 5 27 1,.O 27 (.arr 1 (([]:List Int).map Qo)),.S 5 (.own 27 ([]:List Int).length),.K [0,1,5,6,7,8] [27,605,607,608,609]] rfl ⟨⟨⟨tt_,(Qd6 gA _ _ _ H)⟩,rfl⟩,(congrArg (fun n=>V.own 27 n) (by simp))⟩ ?_
 obtain⟨J,w,h⟩:=Qf h
 refine AK.loop (body:=(fun st=>Qaq a st.1 st.2.1 st.2.2.1 st.2.2.2.1 st.2.2.2.2.1 st.2.2.2.2.2.1 st.2.2.2.2.2.2)) (fun st σ=>σ=⟨[(0,.loc 607 0 0),(1,.I a),(5,.own 27 st.2.2.2.1.length),(6,.I st.1),(7,.I st.2.1),(8,.b st.2.2.1)],[(27,.arr 1 (st.2.2.2.1.map Qo)),(605,.arr 1 (st.2.2.2.2.2.2.map (Qw gA))),(607,.var [.own 605 st.2.2.2.2.2.2.length,.map 608]),(608,.map (QA V.I (QE gA) st.2.2.2.2.1)),(609,.tbl gA 3 (st.2.2.2.2.2.1.map Qg))]⟩) (fun q e σ=>e=.exit 0∧σ=⟨[(5,.own 27 q.1.length)],[(27,.arr 1 (q.1.map Qo)),(605,.arr 1 (q.2.2.2.map (Qw gA))),(607,.var [.own 605 q.2.2.2.length,.map 608]),(608,.map (QA V.I (QE gA) q.2.1)),(609,.tbl gA 3 (q.2.2.1.map Qg))]⟩) w rfl ?_ ?_
 ·rintro ⟨c,at_14,j,s,m,L,y⟩ o σ rfl h
  refine tg_ hC [.n 2] rfl ?_
  refine AK.meetX (fun σ=>σ=⟨[(0,.loc 607 0 0),(1,.I a),(5,.own 27 s.length),(6,.I c),(20,.b (j&&(decide (at_14≤a))))],[(27,.arr 1 (s.map Qo)),(605,.arr 1 (y.map (Qw gA))),(607,.var [.own 605 y.length,.map 608]),(608,.map (QA V.I (QE gA) m)),(609,.tbl gA 3 (L.map Qg))]⟩) ?_ ?_
  ·refine tg_ hC [.n 3] rfl ?_
   rcases Qdz j with g | g
   ·refine Qa hC [.S 16 (.b true),.n 5,.S 20 (.b (j&&(decide (at_14≤a)))),.K [0,1,5,6,20] [27,605,607,608,609]] rfl ⟨(tc_ g),(congrArg V.b (QiB g rfl))⟩ ?_
    exact AK.met rfl
   refine Qa hC [.S 16 (.b false),.n 5,.S 20 (.b (j&&(decide (at_14≤a)))),.K [0,1,5,6,20] [27,605,607,608,609]] rfl ⟨(tc_ g),(congrArg V.b (QiC g rfl))⟩ ?_
   exact AK.met rfl
  rintro σ rfl
  refine tg_ hC [.n 1] rfl ?_
  rcases QH h with⟨p,h⟩|⟨p,h⟩
  ·obtain⟨z,h⟩:=Qb3 h
   obtain⟨i,A,h⟩:=Qf h
   obtain⟨t,B,h⟩:=Qf h
   refine Qa hC [.T,.n 8,.v (.bd []) [] (.sl 1 (([c]:List Int).map Qo)),.app ((s++([c]:List Int)).map Qo) (s++([c]:List Int)).length,.n 9,.cm (.fn) [(607,607),(605,605),(608,608),(609,609)] [(605,605),(607,607),(608,608),(609,609)] [605] [.d] [(605,.arr 1 (i.2.1.map (Qw gA))),(607,.var [.own 605 i.2.1.length,.map 608]),(608,.map (QA V.I (QE gA) m)),(609,.tbl gA 3 (i.2.2.map Qg))] (.ifc 116 (QE gA i.1)),.n 8,.x (fun σ=>σ.set 608 (.map (QA V.I (QE gA) (QcO m c)))),.n 5,.cm (.fn) [(607,607),(605,605),(608,608),(609,609)] [(605,605),(607,607),(608,608),(609,609)] [605] [.d] [(605,.arr 1 (i.2.1.map (Qw gA))),(607,.var [.own 605 i.2.1.length,.map 608]),(608,.map (QA V.I (QE gA) (QcO m c))),(609,.tbl gA 3 (i.2.2.map Qg))] (.tup [.I t.1,.I t.2.1,.b t.2.2]),.n 8,.K [0,1,5,6,7,8] [27,605,607,608,609]] rfl ⟨⟨⟨⟨⟨⟨tt_,p⟩,rfl⟩,⟨Qj,Qej z Qj,Qcb,QeQ Qj⟩⟩,(QfY gA _ _ _ A)⟩,(Stp.delete (e:=V.I) (f:=(QE gA)) (l:=m) (k:=c) rfl rfl rfl rfl rfl QkB QkA)⟩,(Qd6 gA _ _ _ B)⟩ ?_
   cases h
   exact QaT rfl rfl
  refine Qa hC [.F,.n 2,.K [5] [27,605,607,608,609]] rfl ⟨tt_,p⟩ ?_
  cases h
  exact QaP rfl (an_ rfl rfl)
 obtain⟨M,N,P,U⟩:=J
 replace h:Qev M N P U=some r:=h
 rintro e σ ⟨rfl,rfl⟩
 refine tg_ hC [.n 9,.K [4] [27,605,607,608,609],.ren 27 600] rfl ?_
 cases h
 exact d1_ rfl rfl ⟨rfl,rfl,rfl,rfl,rfl,tt_⟩
def Qdo (e:Int)(f:(List (Int×Bool)))(a:Qi)(b:(List (Option Nat)))(c:(List (Int×(Option Nat))))(d:(List Qe)):Option ((Int×(List (Int×Bool))×(List (Option Nat))×(List (Int×(Option Nat)))×(List Qe))⊕((List (Option Nat))×(List (Int×(Option Nat)))×(List Qe))):=
 some (.inl ((w64 (e+1)),(Qc7 ltI f a.Id true),b,c,d))
def QaN (h:(List Qi))(d:Int)(e:(List (Int×Bool)))(f:(List (Option Nat)))(g:(List (Int×(Option Nat))))(b:(List Qe)):Option ((Int×(List (Int×Bool))×(List (Option Nat))×(List (Int×(Option Nat)))×(List Qe))⊕((List (Option Nat))×(List (Int×(Option Nat)))×(List Qe))):=
 bif (decide (d<(h.length:Int)))then
 (idx h d).bind fun a=>
 bif ((!((Qbb e a.Id).getD false))&&(decide (0<a.Until)))then
 (Qbw f g a.Id a.Until b).bind fun c=>
 Qdo d e a c.2.1 c.2.2.2 c.2.2.1
 else
 Qdo d e a f g b
 else
 some (.inr (f,g,b))
def QeK (a:Int)(b:(List (Option Nat)))(c:(List (Int×(Option Nat))))(d:(List Qe)):Option (List Int):=
 (Qdx b c a d).bind fun e=>
 some e.1
def QcL (c:(List Qi))(a:Int):Option (List Int):=
 (QgD).bind fun b=>
 (QM (fun st=>QaN c st.1 st.2.1 st.2.2.1 st.2.2.2.1 st.2.2.2.2) (0,([]:(List (Int×Bool))),([]:List (Option Nat)),b.1,b.2)).bind (fun q=>QeK a q.1 q.2.1 q.2.2)
theorem QgY (gA:Nat→Nat)(t:(List Qi))(c:Int){r:(List Int)}(h:QcL t c=some r):Qh prog 19 [.sl 11 (t.map Qc),.I c] [] (Qp (.own 600 r.length) [(600,.arr 1 (r.map Qo))]):=by
 refine Qh.walk 40 func19 rfl rfl rfl fun C hC=>?_
 obtain⟨U,G,h⟩:=Qf h
 refine Qa hC [.n 7,.cm (.fn) [] [(9,1),(602,3),(603,601)] [] [] [(1,.map (QA V.I (QE gA) U.1)),(3,.var [.lit (.slice none 0 0),.map 1]),(601,.tbl gA 3 (U.2.map Qg))] (.loc 3 0 0),.n 6,.O 10 (.map (QA V.I V.b ([]:(List (Int×Bool))))),.n 7,.o (.ln t.length),.n 4,.adoptO 602 0 604 1,.O 604 (.arr 1 (([]:List (Option Nat)).map (Qw gA))),.O 602 (.var [.own 604 ([]:List (Option Nat)).length,.map 9]),.K [1,5,6,11,12,13] [9,10,602,603,604]] rfl ⟨⟨⟨⟨⟨tt_,(Qjy gA  G)⟩,rfl⟩,Qj⟩,rfl⟩,(congrArg (fun n=>Ob.var [.own 604 n,.map 9]) (by simp))⟩ ?_
 obtain⟨H,A,h⟩:=Qf h
 refine AK.loop (body:=(fun st=>QaN t st.1 st.2.1 st.2.2.1 st.2.2.2.1 st.2.2.2.2)) (fun st σ=>∃gA:Nat→Nat,σ=⟨[(1,.I c),(5,.loc 602 0 0),(6,.map 10),(11,.sl 11 (t.map Qc)),(12,.I (t.length:Int)),(13,.I st.1)],[(9,.map (QA V.I (QE gA) st.2.2.2.1)),(10,.map (QA V.I V.b st.2.1)),(602,.var [.own 604 st.2.2.1.length,.map 9]),(603,.tbl gA 3 (st.2.2.2.2.map Qg)),(604,.arr 1 (st.2.2.1.map (Qw gA)))]⟩) (fun q e σ=>e=.exit 0∧∃gA:Nat→Nat,σ=⟨[(1,.I c),(5,.loc 602 0 0)],[(9,.map (QA V.I (QE gA) q.2.1)),(602,.var [.own 604 q.1.length,.map 9]),(603,.tbl gA 3 (q.2.2.map Qg)),(604,.arr 1 (q.1.map (Qw gA)))]⟩) A (ex_ _ rfl) ?_ ?_
 ·rintro ⟨J,j,W,Y,L⟩ o σ ⟨gA,rfl⟩ h
  refine tg_ hC [.n 6] rfl ?_
  rcases QH h with⟨m,h⟩|⟨m,h⟩
  ·obtain⟨a,B,h⟩:=Qf h
   refine Qa hC [.T,.n 6,.o (.row (Qc a)),.v .no [] (.agg (Qc a)),.n 2,.O 8 (.var (Qc a)),.n 2] rfl ⟨⟨⟨⟨tt_,m⟩,(QaU B)⟩,rfl⟩,rfl⟩ ?_
   refine AK.meet (fun σ=>∃gA:Nat→Nat,∃u:(List (Option Nat)),∃w:(List (Int×(Option Nat))),∃y:(List Qe),σ=⟨[(1,.I c),(5,.loc 602 0 0),(6,.map 10),(8,.loc 8 0 0),(11,.sl 11 (t.map Qc)),(12,.I (t.length:Int)),(13,.I J)],[(8,.var (Qc a)),(9,.map (QA V.I (QE gA) w)),(10,.map (QA V.I V.b j)),(602,.var [.own 604 u.length,.map 9]),(603,.tbl gA 3 (y.map Qg)),(604,.arr 1 (u.map (Qw gA)))]⟩∧Qdo J j a u w y=some o) ?_ ?_
   ·refine tg_ hC [.n 1] rfl ?_
    refine AK.meetX (fun σ=>σ=⟨[(1,.I c),(5,.loc 602 0 0),(6,.map 10),(8,.loc 8 0 0),(11,.sl 11 (t.map Qc)),(12,.I (t.length:Int)),(13,.I J),(26,.b ((!((Qbb j a.Id).getD false))&&(decide (0<a.Until))))],[(8,.var (Qc a)),(9,.map (QA V.I (QE gA) Y)),(10,.map (QA V.I V.b j)),(602,.var [.own 604 W.length,.map 9]),(603,.tbl gA 3 (L.map Qg)),(604,.arr 1 (W.map (Qw gA)))]⟩) ?_ ?_
    ·refine Qa hC [.n 4,.o (.any (.b ((Qbb j a.Id).getD false)) none),.n 2] rfl ⟨tt_,(fun σ X Z _=>Stp.lookup (e:=V.I) (f:=V.b) (l:=j) (k:=a.Id) (z:=false) rfl rfl (Qu hC.n rfl) (X _ _ rfl) (Z _ _ rfl) (X _ _ rfl) QmF QkA QnF rfl)⟩ ?_
     rcases Qdz (!((Qbb j a.Id).getD false))with g | g
     ·refine Qa hC [.S 22 (.b true),.n 5,.S 26 (.b ((!((Qbb j a.Id).getD false))&&(decide (0<a.Until)))),.K [1,5,6,8,11,12,13,26] [8,9,10,602,603,604]] rfl ⟨(tc_ g),(congrArg V.b (QiB g rfl))⟩ ?_
      exact AK.met rfl
     refine Qa hC [.S 22 (.b false),.n 5,.S 26 (.b ((!((Qbb j a.Id).getD false))&&(decide (0<a.Until)))),.K [1,5,6,8,11,12,13,26] [8,9,10,602,603,604]] rfl ⟨(tc_ g),(congrArg V.b (QiC g rfl))⟩ ?_
     exact AK.met rfl
    rintro σ rfl
    refine tg_ hC [.n 1] rfl ?_
    rcases QH h with⟨p,h⟩|⟨p,h⟩
    ·obtain⟨s,D,h⟩:=Qf h
     refine Qa hC [.T,.n 6] rfl ⟨tt_,p⟩ ?_
     refine AK.callE (ι:=Nat→Nat) (Φ:=fun _=>True) [(607,602),(605,604),(608,9),(606,603)] [(604,605),(603,606),(602,607),(9,608)] [604,603] [.d,.d,.d] (fun gA=>[(605,.arr 1 (s.2.1.map (Qw gA))),(606,.tbl gA 3 (s.2.2.1.map Qg)),(607,.var [.own 605 s.2.1.length,.map 608]),(608,.map (QA V.I (QE gA) s.2.2.2))]) (fun gA=>.I s.1) (fun gA=>_) rfl hC (Qal.fn rfl (by kernel_rfl) rfl) rfl (Qu hC.n rfl) rfl rfl (QfX gA _ _ _ _ _ D) (fun gA=>ex_ _ rfl) fun gA _=>?_
     refine tg_ hC [.n 1,.K [1,5,6,8,11,12,13] [8,9,10,602,603,604]] rfl ?_
     exact AK.met (ex_ _ (ex_ _ (ex_ _ (ex_ _ (an_ rfl h)))))
    refine Qa hC [.F,.n 1,.K [1,5,6,8,11,12,13] [8,9,10,602,603,604]] rfl ⟨tt_,p⟩ ?_
    exact AK.met (ex_ _ (ex_ _ (ex_ _ (ex_ _ (an_ rfl h)))))
   rintro σ ⟨gA,u,w,y,rfl,h⟩
   refine Qa hC [.n 4,.x (fun σ=>σ.set 10 (.map (QA V.I V.b (Qc7 ltI j a.Id true)))),.n 7,.K [1,5,6,11,12,13] [9,10,602,603,604]] rfl ⟨tt_,(Stp.mapUpdate (e:=V.I) (f:=V.b) (l:=j) (k:=a.Id) (v:=true) ltI rfl rfl rfl rfl rfl rfl QmF QkA rfl)⟩ ?_
   cases h
   exact QaT rfl (ex_ _ rfl)
  refine Qa hC [.F,.n 2,.K [1,5] [9,602,603,604]] rfl ⟨tt_,m⟩ ?_
  cases h
  exact QaP rfl (an_ rfl (ex_ _ rfl))
 obtain⟨M,N,P⟩:=H
 replace h:QeK c M N P=some r:=h
 rintro e σ ⟨rfl,gA,rfl⟩
 obtain⟨i,E,h⟩:=Qf h
 refine Qa hC [.n 6,.cm (.fn) [(607,602),(605,604),(608,9),(609,603)] [(39,600),(604,605),(602,607),(9,608),(603,609)] [604] [.d,.d] [(600,.arr 1 (i.1.map Qo)),(605,.arr 1 (i.2.1.map (Qw gA))),(607,.var [.own 605 i.2.1.length,.map 608]),(608,.map (QA V.I (QE gA) i.2.2.1)),(609,.tbl gA 3 (i.2.2.2.map Qg))] (.own 600 i.1.length),.n 4,.K [4] [39],.ren 39 600] rfl ⟨tt_,(Qhz gA _ _ _ _ E)⟩ ?_
 cases h
 exact d1_ rfl rfl ⟨rfl,tt_⟩
def Qge (c:(List Int))(d:(List Int))(a:Int):Option (Int⊕(Unit⊕Unit)):=
 bif (decide (a<(c.length:Int)))then
 (idx c a).bind fun e=>
 (idx d a).bind fun b=>
 bif (e != b)then
 some (.inr (.inl ()))
 else
 some (.inl (w64 (a+1)))
 else
 some (.inr (.inr ()))
def Qgf : Option Bool:=
 some false
def Qgg : Option Bool:=
 some true
def Qh9 (a:(List Int))(b:(List Int)):Option Bool:=
 bif ((a.length:Int) != (b.length:Int))then
 some false
 else
 (QM (fun st=>Qge a b st) 0).bind (Sum.elim (fun q=>Qgf) (fun q=>Qgg))
theorem Qjc (g i){r}(h:Qh9 g i=some r):Qh prog 18 [.sl 1 (g.map Qo),.sl 1 (i.map Qo)] [] (Qp (.b r) []):=by
 refine Qh.walk 26 func18 rfl rfl rfl fun C hC=>?_
 refine Qa hC [.n 9,.o (.ln g.length),.n 1,.o (.ln i.length),.n 3] rfl ⟨⟨tt_,Qj⟩,Qj⟩ ?_
 refine bg_ h (fun d h=>Qa hC [.T,.n 7,.K [4] []] rfl ⟨tt_,d⟩ ?_) fun d h=>Qa hC [.F,.n 9,.K [0,1,5] []] rfl ⟨tt_,d⟩ ?_
 ·cases h
  exact d1_ rfl rfl tt_
 obtain⟨l,j,h⟩:=Qf h
 refine AK.loop (body:=(fun st=>Qge g i st)) (fun st σ=>σ=⟨[(0,.sl 1 (g.map Qo)),(1,.sl 1 (i.map Qo)),(5,.I st)],[]⟩) (Sum.elim (fun q e σ=>e=.ret∧σ=⟨[(4,.b false)],[]⟩) (fun q e σ=>e=.exit 0∧σ=⟨[],[]⟩)) j rfl ?_ ?_
 ·rintro t o σ rfl h
  refine Qa hC [.n 5,.o (.ln g.length),.n 3] rfl ⟨tt_,Qj⟩ ?_
  rcases QH h with⟨f,h⟩|⟨f,h⟩
  ·obtain⟨s,m,h⟩:=Qf h
   obtain⟨p,k,h⟩:=Qf h
   refine Qa hC [.T,.n 5,.K [0,1,5] []] rfl ⟨tt_,f⟩ ?_
   refine AK.draw2 Qm hC mixed [.N,.N,.a (.row (Qo s)) none false,.N,.N,.N,.a (.row (Qo p)) none false,.N,.N] [] [] [0,1,5,25] [] rfl rfl rfl ⟨⟨tt_,(QaU m)⟩,(QaU k)⟩ rfl (by kernel_rfl) rfl rfl rfl ?_
   refine tg_ hC [.n 1] rfl ?_
   refine bg_ h (fun c h=>Qa hC [.T,.n 8,.K [4] []] rfl ⟨tt_,c⟩ ?_) fun c h=>Qa hC [.F,.n 8,.K [0,1,5] []] rfl ⟨tt_,c⟩ ?_
   ·cases h
    exact Qgu rfl (an_ rfl rfl)
   cases h
   exact QaT rfl rfl
  refine Qa hC [.F,.n 2,.K [] []] rfl ⟨tt_,f⟩ ?_
  cases h
  exact QaP rfl (an_ rfl rfl)
 rcases l with(_ | _)
 ·replace h:Qgf=some r:=h
  rintro e σ ⟨rfl,rfl⟩
  refine tg_ hC [.n 2] rfl ?_
  cases h
  exact d1_ rfl rfl tt_
 replace h:Qgg=some r:=h
 rintro e σ ⟨rfl,rfl⟩
 refine tg_ hC [.n 8] rfl ?_
 cases h
 exact d1_ rfl rfl tt_
def QbY (c:Int)(a:Int)(b:Int):Option Bool:=
 some ((decide (a≤c))&&(decide (c≤b)))
theorem Qcy (e a c){r}(h:QbY e a c=some r):Qh prog 89 [.I e,.I a,.I c] [] (Qp (.b r) []):=by
 refine Qh.walk 15 func89 rfl rfl rfl fun C hC=>?_
 refine tg_ hC [.n 6] rfl ?_
 refine AK.meetX (fun σ=>σ=⟨[(6,.b ((decide (a≤e))&&(decide (e≤c))))],[]⟩) ?_ ?_
 ·refine tg_ hC [.n 5] rfl ?_
  rcases Qdz (decide (a≤e))with d | d
  ·refine Qa hC [.S 10 (.b true),.n 6,.S 6 (.b ((decide (a≤e))&&(decide (e≤c)))),.K [6] []] rfl ⟨(tc_ d),(congrArg V.b (QiB d rfl))⟩ ?_
   exact AK.met rfl
  refine Qa hC [.S 10 (.b false),.n 6,.S 6 (.b ((decide (a≤e))&&(decide (e≤c)))),.K [6] []] rfl ⟨(tc_ d),(congrArg V.b (QiC d rfl))⟩ ?_
  exact AK.met rfl
 rintro σ rfl
 refine tg_ hC [.n 2] rfl ?_
 cases h
 exact d1_ rfl rfl tt_
def Qia (a:Q5):Option Int:=
 some (w64 ((w64 (a.Open+a.Done))+a.Failed))
theorem Qjd (a){r}(h:Qia a=some r):Qh prog 90 [.agg (Qaf a)] [] (Qp (.I r) []):=by
 refine Qh.walk 11 func90 rfl rfl rfl fun C hC=>?_
 refine tg_ hC [.n 20] rfl ?_
 cases h
 exact d1_ rfl rfl tt_
def Qgh (a:Q5):Option Bool:=
 (QbY a.Most 1 16).bind fun b=>
 bif (!b)then
 some true
 else
 (QbY a.Enough 1 a.Most).bind fun c=>
 some (!c)
def QaX (a:Q5)(b:Int):Option (Int⊕(Unit⊕Unit)):=
 bif (decide (b<(([a.Open,a.Done,a.Failed]:List Int).length:Int)))then
 (idx ([a.Open,a.Done,a.Failed]:List Int) b).bind fun c=>
 (QbY c 0 a.Most).bind fun d=>
 bif (!d)then
 some (.inr (.inl ()))
 else
 some (.inl (w64 (b+1)))
 else
 some (.inr (.inr ()))
def Qgi : Option Bool:=
 some false
def Qgj (c:Q5):Option Bool:=
 (Qia c).bind fun a=>
 (QbY a 1 c.Most).bind fun b=>
 some b
def Qb1 (a:Q5)(b:Bool):Option Bool:=
 bif b then
 some false
 else
 (QM (fun st=>QaX a st) 0).bind (Sum.elim (fun q=>Qgi) (fun q=>Qgj a))
def QbL (a:Q5):Option Bool:=
 (Qgh a).bind (fun b=>Qb1 a b)
theorem Qgk (f){r}(h:QbL f=some r):Qh prog 50 [.agg (Qaf f)] [] (Qp (.b r) []):=by
 refine Qh.walk 40 func50 rfl rfl rfl fun C hC=>?_
 refine tg_ hC [.n 8] rfl ?_
 obtain⟨u,w,h⟩:=Qf h
 replace h:Qb1 f u=some r:=h
 refine AK.meetX (fun σ=>σ=⟨[(1,.loc 1 0 0),(16,.b u)],[(1,.var (Qaf f))]⟩) ?_ ?_
 ·replace h:=w
  obtain⟨G,x,h⟩:=Qf h
  refine Qa hC [.n 3,.o (.c false [.d,.d,.d] (.b G)),.n 2] rfl ⟨tt_,(Qcy _ _ _ x)⟩ ?_
  rcases QH h with⟨j,h⟩|⟨j,h⟩
  ·refine Qa hC [.S 9 (.b true),.n 8,.K [1,16] [1]] rfl (tc_ j) ?_
   cases h
   exact AK.met rfl
  obtain⟨H,y,h⟩:=Qf h
  refine Qa hC [.S 9 (.b false),.n 4,.o (.c false [.d,.d,.d] (.b H)),.n 3,.K [1,16] [1]] rfl ⟨(tc_ j),(Qcy _ _ _ y)⟩ ?_
  cases h
  exact AK.met rfl
 rintro σ rfl
 replace h:Qb1 f u=some r:=h
 refine tg_ hC [.n 1] rfl ?_
 refine bg_ h (fun k h=>Qa hC [.T,.n 7,.K [2] []] rfl ⟨tt_,k⟩ ?_) fun k h=>Qa hC [.F,.n 11,.v (.bd []) [] (.sl 1 (([f.Open,f.Done,f.Failed]:List Int).map Qo)),.o (.ln ([f.Open,f.Done,f.Failed]:List Int).length),.n 4,.K [1,23,24,25] [1]] rfl ⟨⟨⟨tt_,k⟩,rfl⟩,Qj⟩ ?_
 ·cases h
  exact d1_ rfl rfl tt_
 obtain⟨z,l,h⟩:=Qf h
 refine AK.loop (body:=(fun st=>QaX f st)) (fun st σ=>σ=⟨[(1,.loc 1 0 0),(23,.sl 1 (([f.Open,f.Done,f.Failed]:List Int).map Qo)),(24,.I (([f.Open,f.Done,f.Failed]:List Int).length:Int)),(25,.I st)],[(1,.var (Qaf f))]⟩) (Sum.elim (fun q e σ=>e=.ret∧σ=⟨[(2,.b false)],[]⟩) (fun q e σ=>e=.exit 0∧σ=⟨[(1,.loc 1 0 0)],[(1,.var (Qaf f))]⟩)) l rfl ?_ ?_
 ·rintro J o σ rfl h
  refine tg_ hC [.n 6] rfl ?_
  rcases QH h with⟨g,h⟩|⟨g,h⟩
  ·obtain⟨A,m,h⟩:=Qf h
   obtain⟨B,p,h⟩:=Qf h
   refine Qa hC [.T,.n 6,.o (.row (Qo A)),.n 9,.o (.c false [.d,.d,.d] (.b B)),.n 3] rfl ⟨⟨⟨tt_,g⟩,(QaU m)⟩,(Qcy _ _ _ p)⟩ ?_
   refine bg_ h (fun i h=>Qa hC [.T,.n 8,.K [2] []] rfl ⟨tt_,i⟩ ?_) fun i h=>Qa hC [.F,.n 7,.K [1,23,24,25] [1]] rfl ⟨tt_,i⟩ ?_
   ·cases h
    exact Qgu rfl (an_ rfl rfl)
   cases h
   exact QaT rfl rfl
  refine Qa hC [.F,.n 2,.K [1] [1]] rfl ⟨tt_,g⟩ ?_
  cases h
  exact QaP rfl (an_ rfl rfl)
 rcases z with(_ | _)
 ·replace h:Qgi=some r:=h
  rintro e σ ⟨rfl,rfl⟩
  refine tg_ hC [.n 2] rfl ?_
  cases h
  exact d1_ rfl rfl tt_
 replace h:Qgj f=some r:=h
 rintro e σ ⟨rfl,rfl⟩
 obtain⟨D,s,h⟩:=Qf h
 obtain⟨E,t,h⟩:=Qf h
 refine tg_ hC [.n 3,.K [1] [1]] rfl ?_
 refine AK.draw2 Qm hC mixed [.a .no (some ([],.agg (Qaf f))) false,.a (.c false [.d] (.I D)) none false,.N,.N,.a (.c false [.d,.d,.d] (.b E)) none false,.N] [] [] [2] [] rfl rfl rfl ⟨⟨⟨tt_,rfl⟩,(Qjd _ s)⟩,(Qcy _ _ _ t)⟩ rfl (by kernel_rfl) rfl rfl rfl ?_
 refine tg_ hC [.n 2] rfl ?_
 cases h
 exact d1_ rfl rfl tt_
def QgZ (a:Q5):Option Bool:=
 (QbL a).bind fun b=>
 bif b then
 bif (decide (a.Enough≤a.Done))then
 some true
 else
 some (a.Open==0)
 else
 some false
def Qdp (a:Bool):Option Bool:=
 some a
def QcM (a:Q5):Option Bool:=
 (QgZ a).bind (fun b=>Qdp b)
theorem Qjz (f){r}(h:QcM f=some r):Qh prog 51 [.agg (Qaf f)] [] (Qp (.b r) []):=by
 refine Qh.walk 17 func51 rfl rfl rfl fun C hC=>?_
 refine tg_ hC [.n 7] rfl ?_
 obtain⟨g,i,h⟩:=Qf h
 replace h:Qdp g=some r:=h
 refine AK.meetX (fun σ=>σ=⟨[(2,.b g)],[]⟩) ?_ ?_
 ·replace h:=i
  obtain⟨k,j,h⟩:=Qf h
  refine Qa hC [.n 1,.v .no [] (.agg (Qaf f)),.o (.c false [.d] (.b k)),.n 1] rfl ⟨⟨tt_,rfl⟩,(Qgk _ j)⟩ ?_
  refine bg_ h (fun a h=>Qa hC [.S 5 (.b true),.n 6] rfl (tc_ a) ?_) fun a h=>Qa hC [.S 5 (.b false),.n 13,.K [2] []] rfl (tc_ a) ?_
  ·refine bg_ h (fun e h=>Qa hC [.S 11 (.b true),.n 7,.K [2] []] rfl (tc_ e) ?_) fun e h=>Qa hC [.S 11 (.b false),.n 7,.K [2] []] rfl (tc_ e) ?_
   ·cases h
    exact AK.met rfl
   cases h
   exact AK.met rfl
  cases h
  exact AK.met rfl
 rintro σ rfl
 replace h:Qdp g=some r:=h
 refine tg_ hC [.n 2] rfl ?_
 cases h
 exact d1_ rfl rfl tt_
def QdW (a:Qi)(b:Int)(next_2:Int):Option Bool:=
 bif (decide (a.Id≤b))then
 some true
 else
 bif (decide (next_2≤a.Id))then
 some true
 else
 bif (decide (a.Until<0))then
 some true
 else
 (QbL a.Batch).bind fun c=>
 bif (!c)then
 some true
 else
 (QcM a.Batch).bind fun d=>
 some d
def Qcz (a:Qi)(c:Int)(b:Bool):Option ((Int×Int)⊕(Unit⊕Unit)):=
 bif b then
 some (.inr (.inl ()))
 else
 some (.inl (a.Id,(w64 (c+1))))
def QaK (e:(List Qi))(next_2:Int)(a:Int)(c:Int):Option ((Int×Int)⊕(Unit⊕Unit)):=
 bif (decide (c<(e.length:Int)))then
 (idx e c).bind fun b=>
 (QdW b a next_2).bind (fun d=>Qcz b c d)
 else
 some (.inr (.inr ()))
def QfP : Option Bool:=
 some false
def QfQ (a:(List Qi)):Option Bool:=
 some (decide ((a.length:Int)≤64))
def Qas (a:(List Qi))(next_2:Int):Option Bool:=
 (QM (fun st=>QaK a next_2 st.1 st.2) (0,0)).bind (Sum.elim (fun q=>QfP) (fun q=>QfQ a))
theorem Qbc (f next_2){r}(h:Qas f next_2=some r):Qh prog 21 [.sl 11 (f.map Qc),.I next_2] [] (Qp (.b r) []):=by
 refine Qh.walk 46 func21 rfl rfl rfl fun C hC=>?_
 refine Qa hC [.n 14,.o (.ln f.length),.n 4,.K [0,1,5,8,9,10] []] rfl ⟨tt_,Qj⟩ ?_
 obtain⟨y,s,h⟩:=Qf h
 refine AK.loop (body:=(fun st=>QaK f next_2 st.1 st.2)) (fun st σ=>σ=⟨[(0,.sl 11 (f.map Qc)),(1,.I next_2),(5,.I st.1),(8,.sl 11 (f.map Qc)),(9,.I (f.length:Int)),(10,.I st.2)],[]⟩) (Sum.elim (fun q e σ=>e=.ret∧σ=⟨[(4,.b false)],[]⟩) (fun q e σ=>e=.exit 0∧σ=⟨[(0,.sl 11 (f.map Qc))],[]⟩)) s rfl ?_ ?_
 ·rintro ⟨z,A⟩ o σ rfl h
  refine tg_ hC [.n 6] rfl ?_
  rcases QH h with⟨m,h⟩|⟨m,h⟩
  ·obtain⟨a,t,h⟩:=Qf h
   refine Qa hC [.T,.n 6,.o (.row (Qc a)),.v .no [] (.agg (Qc a)),.n 2,.O 7 (.var (Qc a)),.n 4] rfl ⟨⟨⟨⟨tt_,m⟩,(QaU t)⟩,rfl⟩,rfl⟩ ?_
   obtain⟨p,u,h⟩:=Qf h
   replace h:Qcz a A p=some o:=h
   refine AK.meetX (fun σ=>σ=⟨[(0,.sl 11 (f.map Qc)),(1,.I next_2),(7,.loc 7 0 0),(8,.sl 11 (f.map Qc)),(9,.I (f.length:Int)),(10,.I A),(39,.b p)],[(7,.var (Qc a))]⟩) ?_ ?_
   ·replace h:=u
    refine tg_ hC [.n 6] rfl ?_
    refine bg_ h (fun g h=>Qa hC [.S 18 (.b true),.n 22,.K [0,1,7,8,9,10,39] [7]] rfl (tc_ g) ?_) fun g h=>Qa hC [.S 18 (.b false),.n 6] rfl (tc_ g) ?_
    ·cases h
     exact AK.met rfl
    refine bg_ h (fun i h=>Qa hC [.S 24 (.b true),.n 16,.K [0,1,7,8,9,10,39] [7]] rfl (tc_ i) ?_) fun i h=>Qa hC [.S 24 (.b false),.n 5] rfl (tc_ i) ?_
    ·cases h
     exact AK.met rfl
    rcases QH h with⟨j,h⟩|⟨j,h⟩
    ·refine Qa hC [.S 29 (.b true),.n 11,.K [0,1,7,8,9,10,39] [7]] rfl (tc_ j) ?_
     cases h
     exact AK.met rfl
    obtain⟨B,w,h⟩:=Qf h
    refine Qa hC [.S 29 (.b false),.n 1,.v .no [] (.agg (Qaf a.Batch)),.o (.c false [.d] (.b B)),.n 3] rfl ⟨⟨(tc_ j),rfl⟩,(Qgk _ w)⟩ ?_
    rcases QH h with⟨k,h⟩|⟨k,h⟩
    ·refine Qa hC [.S 35 (.b true),.n 5,.K [0,1,7,8,9,10,39] [7]] rfl (tc_ k) ?_
     cases h
     exact AK.met rfl
    obtain⟨D,x,h⟩:=Qf h
    refine Qa hC [.S 35 (.b false),.n 1,.v .no [] (.agg (Qaf a.Batch)),.o (.c false [.d] (.b D)),.n 2,.K [0,1,7,8,9,10,39] [7]] rfl ⟨⟨(tc_ k),rfl⟩,(Qjz _ x)⟩ ?_
    cases h
    exact AK.met rfl
   rintro σ rfl
   replace h:Qcz a A p=some o:=h
   refine tg_ hC [.n 1] rfl ?_
   refine bg_ h (fun l h=>Qa hC [.T,.n 9,.K [4] []] rfl ⟨tt_,l⟩ ?_) fun l h=>Qa hC [.F,.n 13,.K [0,1,5,8,9,10] []] rfl ⟨tt_,l⟩ ?_
   ·cases h
    exact Qgu rfl (an_ rfl rfl)
   cases h
   exact QaT rfl rfl
  refine Qa hC [.F,.n 2,.K [0] []] rfl ⟨tt_,m⟩ ?_
  cases h
  exact QaP rfl (an_ rfl rfl)
 rcases y with(_ | _)
 ·replace h:QfP=some r:=h
  rintro e σ ⟨rfl,rfl⟩
  refine tg_ hC [.n 2] rfl ?_
  cases h
  exact d1_ rfl rfl tt_
 replace h:QfQ f=some r:=h
 rintro e σ ⟨rfl,rfl⟩
 refine Qa hC [.n 5,.o (.ln f.length),.n 5] rfl ⟨tt_,Qj⟩ ?_
 cases h
 exact d1_ rfl rfl tt_
def QbO (c:QBg)(e:QBg)(b:Int):Option (Int⊕(Unit⊕Unit)):=
 bif (decide (b<(c.length:Int)))then
 (idx c b).bind fun d=>
 (idx e b).bind fun a=>
 bif (!((d.1==a.1)&&(d.2==a.2)))then
 some (.inr (.inl ()))
 else
 some (.inl (w64 (b+1)))
 else
 some (.inr (.inr ()))
def QbP : Option Bool:=
 some false
def QbQ : Option Bool:=
 some true
def Qcl (a:QBg)(b:QBg):Option Bool:=
 bif ((a.length:Int) != (b.length:Int))then
 some false
 else
 (QM (fun st=>QbO a b st) 0).bind (Sum.elim (fun q=>QbP) (fun q=>QbQ))
theorem Qd7 (f j){r}(h:Qcl f j=some r):Qh prog 96 [.sl 2 (f.map QF),.sl 2 (j.map QF)] [] (Qp (.b r) []):=by
 refine Qh.walk 26 func96 rfl rfl rfl fun C hC=>?_
 refine Qa hC [.n 9,.o (.ln f.length),.n 1,.o (.ln j.length),.n 3] rfl ⟨⟨tt_,Qj⟩,Qj⟩ ?_
 refine bg_ h (fun g h=>Qa hC [.T,.n 7,.K [4] []] rfl ⟨tt_,g⟩ ?_) fun g h=>Qa hC [.F,.n 6,.o (.ln f.length),.n 4,.K [0,1,12,13] []] rfl ⟨⟨tt_,g⟩,Qj⟩ ?_
 ·cases h
  exact d1_ rfl rfl tt_
 obtain⟨p,k,h⟩:=Qf h
 refine AK.loop (body:=(fun st=>QbO f j st)) (fun st σ=>σ=⟨[(0,.sl 2 (f.map QF)),(1,.sl 2 (j.map QF)),(12,.I (f.length:Int)),(13,.I st)],[]⟩) (Sum.elim (fun q e σ=>e=.ret∧σ=⟨[(4,.b false)],[]⟩) (fun q e σ=>e=.exit 0∧σ=⟨[],[]⟩)) k rfl ?_ ?_
 ·rintro u o σ rfl h
  refine tg_ hC [.n 6] rfl ?_
  rcases QH h with⟨i,h⟩|⟨i,h⟩
  ·obtain⟨m,s,h⟩:=Qf h
   obtain⟨d,l,h⟩:=Qf h
   refine Qa hC [.T,.n 11,.K [0,1,5,12,13] []] rfl ⟨tt_,i⟩ ?_
   refine AK.draw2 Qm hC mixed [.N,.N,.a (.row (QF m)) none false,.a .no (some ([],.agg (QF m))) false,.N,.N,.a (.row (QF d)) none false,.a .no (some ([],.agg (QF d))) false,.a (.any (.b (!((m.1==d.1)&&(m.2==d.2)))) none) none false] [] [] [0,1,12,13,24] [] rfl rfl rfl ⟨⟨⟨⟨⟨tt_,(QaU s)⟩,rfl⟩,(QaU l)⟩,rfl⟩,(fun σ t v _=>Stp.neAgg rfl rfl (Qu hC.n rfl) (t _ _ rfl) (t _ _ rfl) rfl rfl (Qnm _ _ _ _))⟩ rfl (by kernel_rfl) rfl rfl rfl ?_
   refine tg_ hC [.n 1] rfl ?_
   refine bg_ h (fun c h=>Qa hC [.T,.n 8,.K [4] []] rfl ⟨tt_,c⟩ ?_) fun c h=>Qa hC [.F,.n 7,.K [0,1,12,13] []] rfl ⟨tt_,c⟩ ?_
   ·cases h
    exact Qgu rfl (an_ rfl rfl)
   cases h
   exact QaT rfl rfl
  refine Qa hC [.F,.n 2,.K [] []] rfl ⟨tt_,i⟩ ?_
  cases h
  exact QaP rfl (an_ rfl rfl)
 rcases p with(_ | _)
 ·replace h:QbP=some r:=h
  rintro e σ ⟨rfl,rfl⟩
  refine tg_ hC [.n 2] rfl ?_
  cases h
  exact d1_ rfl rfl tt_
 replace h:QbQ=some r:=h
 rintro e σ ⟨rfl,rfl⟩
 refine tg_ hC [.n 8] rfl ?_
 cases h
 exact d1_ rfl rfl tt_
def Qgl (a:QBg)(b:QBg):Option Bool:=
 (Qcl a b).bind fun c=>
 some c
theorem Qib (e f){r}(h:Qgl e f=some r):Qh prog 63 [.sl 2 (e.map QF),.sl 2 (f.map QF)] [] (Qp (.b r) []):=by
 refine Qh.walk 8 func63 rfl rfl rfl fun C hC=>?_
 obtain⟨g,a,h⟩:=Qf h
 refine Qa hC [.n 9,.o (.c false [.d,.d] (.b g)),.n 4] rfl ⟨tt_,(Qd7 _ _ a)⟩ ?_
 cases h
 exact d1_ rfl rfl tt_
def Q1 (d:QMk)(e:QMk)(a:Int):Option (Int⊕(Unit⊕Unit)):=
 bif (decide (a<(d.length:Int)))then
 (idx d a).bind fun f=>
 (idx e a).bind fun b=>
 (Qgl f b).bind fun c=>
 bif (!c)then
 some (.inr (.inl ()))
 else
 some (.inl (w64 (a+1)))
 else
 some (.inr (.inr ()))
def Q2 : Option Bool:=
 some false
def Q3 : Option Bool:=
 some true
def Qaa (a:QMk)(b:QMk):Option Bool:=
 bif ((a.length:Int) != (b.length:Int))then
 some false
 else
 (QM (fun st=>Q1 a b st) 0).bind (Sum.elim (fun q=>Q2) (fun q=>Q3))
theorem QaQ (f j){r}(h:Qaa f j=some r):Qh prog 62 [.sl 1 (f.map Q0),.sl 1 (j.map Q0),.clo (.func 63) [] []] [] (Qp (.b r) []):=by
 refine Qh.walk 32 func62 rfl rfl rfl fun C hC=>?_
 refine Qa hC [.n 9,.o (.ln f.length),.n 1,.o (.ln j.length),.n 3] rfl ⟨⟨tt_,Qj⟩,Qj⟩ ?_
 refine bg_ h (fun g h=>Qa hC [.T,.n 7,.K [6] []] rfl ⟨tt_,g⟩ ?_) fun g h=>Qa hC [.F,.n 6,.o (.ln f.length),.n 4,.K [1,2,15,16,17] []] rfl ⟨⟨tt_,g⟩,Qj⟩ ?_
 ·cases h
  exact d1_ rfl rfl tt_
 obtain⟨p,k,h⟩:=Qf h
 refine AK.loop (body:=(fun st=>Q1 f j st)) (fun st σ=>σ=⟨[(1,.sl 1 (j.map Q0)),(2,.clo (.func 63) [] []),(15,.sl 1 (f.map Q0)),(16,.I (f.length:Int)),(17,.I st)],[]⟩) (Sum.elim (fun q e σ=>e=.ret∧σ=⟨[(6,.b false)],[]⟩) (fun q e σ=>e=.exit 0∧σ=⟨[],[]⟩)) k rfl ?_ ?_
 ·rintro w o σ rfl h
  refine tg_ hC [.n 6] rfl ?_
  rcases QH h with⟨i,h⟩|⟨i,h⟩
  ·obtain⟨v,s,h⟩:=Qf h
   obtain⟨t,l,h⟩:=Qf h
   obtain⟨u,m,h⟩:=Qf h
   refine Qa hC [.T,.n 7,.o (.row (Q0 v)),.n 9,.o (.row (Q0 t)),.n 9,.o (.c false [.d,.d] (.b u)),.n 3] rfl ⟨⟨⟨⟨tt_,i⟩,(QaU s)⟩,(QaU l)⟩,(Qib _ _ m)⟩ ?_
   refine bg_ h (fun a h=>Qa hC [.T,.n 8,.K [6] []] rfl ⟨tt_,a⟩ ?_) fun a h=>Qa hC [.F,.n 7,.K [1,2,15,16,17] []] rfl ⟨tt_,a⟩ ?_
   ·cases h
    exact Qgu rfl (an_ rfl rfl)
   cases h
   exact QaT rfl rfl
  refine Qa hC [.F,.n 2,.K [] []] rfl ⟨tt_,i⟩ ?_
  cases h
  exact QaP rfl (an_ rfl rfl)
 rcases p with(_ | _)
 ·replace h:Q2=some r:=h
  rintro e σ ⟨rfl,rfl⟩
  refine tg_ hC [.n 2] rfl ?_
  cases h
  exact d1_ rfl rfl tt_
 replace h:Q3=some r:=h
 rintro e σ ⟨rfl,rfl⟩
 refine tg_ hC [.n 8] rfl ?_
 cases h
 exact d1_ rfl rfl tt_
def Qc1 (c:(List Int))(d:(List Int))(a:Int):Option (Int⊕(Unit⊕Unit)):=
 bif (decide (a<(c.length:Int)))then
 (idx c a).bind fun e=>
 (idx d a).bind fun b=>
 bif (e != b)then
 some (.inr (.inl ()))
 else
 some (.inl (w64 (a+1)))
 else
 some (.inr (.inr ()))
def Qc2 : Option Bool:=
 some false
def Qc3 : Option Bool:=
 some true
def Qbi (a:(List Int))(b:(List Int)):Option Bool:=
 bif ((a.length:Int) != (b.length:Int))then
 some false
 else
 (QM (fun st=>Qc1 a b st) 0).bind (Sum.elim (fun q=>Qc2) (fun q=>Qc3))
theorem Qby (d i){r}(h:Qbi d i=some r):Qh prog 79 [.sl 1 (d.map Qo),.sl 1 (i.map Qo)] [] (Qp (.b r) []):=by
 refine Qh.walk 26 func79 rfl rfl rfl fun C hC=>?_
 refine Qa hC [.n 9,.o (.ln d.length),.n 1,.o (.ln i.length),.n 3] rfl ⟨⟨tt_,Qj⟩,Qj⟩ ?_
 refine bg_ h (fun f h=>Qa hC [.T,.n 7,.K [4] []] rfl ⟨tt_,f⟩ ?_) fun f h=>Qa hC [.F,.n 6,.o (.ln d.length),.n 4,.K [0,1,12,13] []] rfl ⟨⟨tt_,f⟩,Qj⟩ ?_
 ·cases h
  exact d1_ rfl rfl tt_
 obtain⟨l,j,h⟩:=Qf h
 refine AK.loop (body:=(fun st=>Qc1 d i st)) (fun st σ=>σ=⟨[(0,.sl 1 (d.map Qo)),(1,.sl 1 (i.map Qo)),(12,.I (d.length:Int)),(13,.I st)],[]⟩) (Sum.elim (fun q e σ=>e=.ret∧σ=⟨[(4,.b false)],[]⟩) (fun q e σ=>e=.exit 0∧σ=⟨[],[]⟩)) j rfl ?_ ?_
 ·rintro t o σ rfl h
  refine tg_ hC [.n 6] rfl ?_
  rcases QH h with⟨g,h⟩|⟨g,h⟩
  ·obtain⟨s,m,h⟩:=Qf h
   obtain⟨p,k,h⟩:=Qf h
   refine Qa hC [.T,.n 11,.K [0,1,5,12,13] []] rfl ⟨tt_,g⟩ ?_
   refine AK.draw2 Qm hC mixed [.N,.N,.a (.row (Qo s)) none false,.N,.N,.N,.a (.row (Qo p)) none false,.N,.N] [] [] [0,1,12,13,24] [] rfl rfl rfl ⟨⟨tt_,(QaU m)⟩,(QaU k)⟩ rfl (by kernel_rfl) rfl rfl rfl ?_
   refine tg_ hC [.n 1] rfl ?_
   refine bg_ h (fun c h=>Qa hC [.T,.n 8,.K [4] []] rfl ⟨tt_,c⟩ ?_) fun c h=>Qa hC [.F,.n 7,.K [0,1,12,13] []] rfl ⟨tt_,c⟩ ?_
   ·cases h
    exact Qgu rfl (an_ rfl rfl)
   cases h
   exact QaT rfl rfl
  refine Qa hC [.F,.n 2,.K [] []] rfl ⟨tt_,g⟩ ?_
  cases h
  exact QaP rfl (an_ rfl rfl)
 rcases l with(_ | _)
 ·replace h:Qc2=some r:=h
  rintro e σ ⟨rfl,rfl⟩
  refine tg_ hC [.n 2] rfl ?_
  cases h
  exact d1_ rfl rfl tt_
 replace h:Qc3=some r:=h
 rintro e σ ⟨rfl,rfl⟩
 refine tg_ hC [.n 8] rfl ?_
 cases h
 exact d1_ rfl rfl tt_
def QhL (a:Qi)(b:Qi):Option Bool:=
 bif (a.Id==b.Id)then
 bif ((a.Batch.Most==b.Batch.Most)&&((a.Batch.Enough==b.Batch.Enough)&&((a.Batch.Open==b.Batch.Open)&&((a.Batch.Done==b.Batch.Done)&&(a.Batch.Failed==b.Batch.Failed)))))then
 bif (a.Until==b.Until)then
 bif (a.Mode.Task==b.Mode.Task)then
 (Qbi a.Mode.Vars b.Mode.Vars).bind fun c=>
 bif c then
 (Qbi a.Mode.Ins b.Mode.Ins).bind fun d=>
 bif d then
 (Qbi a.Mode.Outs b.Mode.Outs).bind fun e=>
 some e
 else
 some false
 else
 some false
 else
 some false
 else
 some false
 else
 some false
 else
 some false
def QcT (a:Bool):Option Bool:=
 some a
def QfR (a:Qi)(b:Qi):Option Bool:=
 (QhL a b).bind (fun c=>QcT c)
theorem QhM (g i){r}(h:QfR g i=some r):Qh prog 65 [.agg (Qc g),.agg (Qc i)] [] (Qp (.b r) []):=by
 refine Qh.walk 58 func65 rfl rfl rfl fun C hC=>?_
 refine tg_ hC [.n 8,.K [2,3] [2,3]] rfl ?_
 refine AK.draw2 Qm hC mixed [.N,.a .no (some ([],.agg (Qaw g.Mode))) false,.a .no none true,.a .no (some ([],.agg (Qaw i.Mode))) true,.N,.N,.m .s,.m .s] [2,3] [2,3] [2,3,5,6] [2,3,5,6] rfl rfl rfl ⟨⟨tt_,rfl⟩,rfl⟩ rfl (by kernel_rfl) rfl rfl rfl ?_
 refine Qa hC [.O 5 (.var (Qaw g.Mode)),.O 6 (.var (Qaw i.Mode)),.n 2] rfl ⟨⟨tt_,rfl⟩,rfl⟩ ?_
 obtain⟨w,x,h⟩:=Qf h
 replace h:QcT w=some r:=h
 refine AK.meetX (fun σ=>σ=⟨[(4,.b w)],[]⟩) ?_ ?_
 ·replace h:=x
  refine tg_ hC [.n 7] rfl ?_
  refine bg_ h (fun j h=>Qa hC [.S 16 (.b true),.n 1,.v .no [] (.agg (Qaf g.Batch)),.n 1,.v .no [] (.agg (Qaf i.Batch)),.o (.any (.b ((g.Batch.Most==i.Batch.Most)&&((g.Batch.Enough==i.Batch.Enough)&&((g.Batch.Open==i.Batch.Open)&&((g.Batch.Done==i.Batch.Done)&&(g.Batch.Failed==i.Batch.Failed)))))) none),.n 2] rfl ⟨⟨⟨(tc_ j),rfl⟩,rfl⟩,(fun σ B D _=>Stp.eqAgg rfl rfl (Qu hC.n rfl) (B _ _ rfl) (B _ _ rfl) rfl rfl (Qnl _ _ _ _ _ _ _ _ _ _))⟩ ?_) fun j h=>Qa hC [.S 16 (.b false),.n 43,.K [4] []] rfl (tc_ j) ?_
  ·refine bg_ h (fun k h=>Qa hC [.S 23 (.b true),.n 7] rfl (tc_ k) ?_) fun k h=>Qa hC [.S 23 (.b false),.n 36,.K [4] []] rfl (tc_ k) ?_
   ·refine bg_ h (fun l h=>Qa hC [.S 30 (.b true),.n 7] rfl (tc_ l) ?_) fun l h=>Qa hC [.S 30 (.b false),.n 29,.K [4] []] rfl (tc_ l) ?_
    ·rcases QH h with⟨p,h⟩|⟨p,h⟩
     ·obtain⟨y,q,h⟩:=Qf h
      refine Qa hC [.S 37 (.b true),.n 4,.o (.c false [.d,.d] (.b y)),.n 2] rfl ⟨(tc_ p),(Qby _ _ q)⟩ ?_
      rcases QH h with⟨e,h⟩|⟨e,h⟩
      ·obtain⟨z,t,h⟩:=Qf h
       refine Qa hC [.S 44 (.b true),.n 4,.o (.c false [.d,.d] (.b z)),.n 2] rfl ⟨(tc_ e),(Qby _ _ t)⟩ ?_
       rcases QH h with⟨f,h⟩|⟨f,h⟩
       ·obtain⟨A,u,h⟩:=Qf h
        refine Qa hC [.S 51 (.b true),.n 4,.o (.c false [.d,.d] (.b A)),.n 3,.K [4] []] rfl ⟨(tc_ f),(Qby _ _ u)⟩ ?_
        cases h
        exact AK.met rfl
       refine Qa hC [.S 51 (.b false),.n 8,.K [4] []] rfl (tc_ f) ?_
       cases h
       exact AK.met rfl
      refine Qa hC [.S 44 (.b false),.n 15,.K [4] []] rfl (tc_ e) ?_
      cases h
      exact AK.met rfl
     refine Qa hC [.S 37 (.b false),.n 22,.K [4] []] rfl (tc_ p) ?_
     cases h
     exact AK.met rfl
    cases h
    exact AK.met rfl
   cases h
   exact AK.met rfl
  cases h
  exact AK.met rfl
 rintro σ rfl
 replace h:QcT w=some r:=h
 refine tg_ hC [.n 2] rfl ?_
 cases h
 exact d1_ rfl rfl tt_
def Qab (d:(List Qi))(e:(List Qi))(a:Int):Option (Int⊕(Unit⊕Unit)):=
 bif (decide (a<(d.length:Int)))then
 (idx d a).bind fun f=>
 (idx e a).bind fun b=>
 (QfR f b).bind fun c=>
 bif (!c)then
 some (.inr (.inl ()))
 else
 some (.inl (w64 (a+1)))
 else
 some (.inr (.inr ()))
def Qac : Option Bool:=
 some false
def Qad : Option Bool:=
 some true
def Qam (a:(List Qi))(b:(List Qi)):Option Bool:=
 bif ((a.length:Int) != (b.length:Int))then
 some false
 else
 (QM (fun st=>Qab a b st) 0).bind (Sum.elim (fun q=>Qac) (fun q=>Qad))
theorem Qa8 (g k){r}(h:Qam g k=some r):Qh prog 64 [.sl 11 (g.map Qc),.sl 11 (k.map Qc),.clo (.func 65) [] []] [] (Qp (.b r) []):=by
 refine Qh.walk 32 func64 rfl rfl rfl fun C hC=>?_
 refine Qa hC [.n 9,.o (.ln g.length),.n 1,.o (.ln k.length),.n 3] rfl ⟨⟨tt_,Qj⟩,Qj⟩ ?_
 refine bg_ h (fun i h=>Qa hC [.T,.n 7,.K [6] []] rfl ⟨tt_,i⟩ ?_) fun i h=>Qa hC [.F,.n 6,.o (.ln g.length),.n 4,.K [1,2,15,16,17] []] rfl ⟨⟨tt_,i⟩,Qj⟩ ?_
 ·cases h
  exact d1_ rfl rfl tt_
 obtain⟨t,l,h⟩:=Qf h
 refine AK.loop (body:=(fun st=>Qab g k st)) (fun st σ=>σ=⟨[(1,.sl 11 (k.map Qc)),(2,.clo (.func 65) [] []),(15,.sl 11 (g.map Qc)),(16,.I (g.length:Int)),(17,.I st)],[]⟩) (Sum.elim (fun q e σ=>e=.ret∧σ=⟨[(6,.b false)],[]⟩) (fun q e σ=>e=.exit 0∧σ=⟨[],[]⟩)) l rfl ?_ ?_
 ·rintro x o σ rfl h
  refine tg_ hC [.n 6] rfl ?_
  rcases QH h with⟨j,h⟩|⟨j,h⟩
  ·obtain⟨s,u,h⟩:=Qf h
   obtain⟨f,m,h⟩:=Qf h
   obtain⟨w,p,h⟩:=Qf h
   refine Qa hC [.T,.n 7,.o (.row (Qc s)),.v .no [] (.agg (Qc s)),.n 3,.O 8 (.var (Qc s)),.n 6,.o (.row (Qc f)),.v .no [] (.agg (Qc f)),.n 2,.O 9 (.var (Qc f)),.n 5,.v .no [] (.agg (Qc s)),.v .no [] (.agg (Qc f)),.o (.c false [.d,.d] (.b w)),.n 3] rfl ⟨⟨⟨⟨⟨⟨⟨⟨⟨⟨tt_,j⟩,(QaU u)⟩,rfl⟩,rfl⟩,(QaU m)⟩,rfl⟩,rfl⟩,rfl⟩,rfl⟩,(QhM _ _ p)⟩ ?_
   refine bg_ h (fun a h=>Qa hC [.T,.n 8,.K [6] []] rfl ⟨tt_,a⟩ ?_) fun a h=>Qa hC [.F,.n 7,.K [1,2,15,16,17] []] rfl ⟨tt_,a⟩ ?_
   ·cases h
    exact Qgu rfl (an_ rfl rfl)
   cases h
   exact QaT rfl rfl
  refine Qa hC [.F,.n 2,.K [] []] rfl ⟨tt_,j⟩ ?_
  cases h
  exact QaP rfl (an_ rfl rfl)
 rcases t with(_ | _)
 ·replace h:Qac=some r:=h
  rintro e σ ⟨rfl,rfl⟩
  refine tg_ hC [.n 2] rfl ?_
  cases h
  exact d1_ rfl rfl tt_
 replace h:Qad=some r:=h
 rintro e σ ⟨rfl,rfl⟩
 refine tg_ hC [.n 8] rfl ?_
 cases h
 exact d1_ rfl rfl tt_
def Qje (a:Qbn)(b:Qbn):Option Bool:=
 bif (a.Next==b.Next)then
 bif (a.Now==b.Now)then
 (Qaa a.M b.M).bind fun d=>
 bif d then
 (Qam a.Items b.Items).bind fun c=>
 some c
 else
 some false
 else
 some false
 else
 some false
def Qew (a:Bool):Option Bool:=
 some a
def Qic (a:Qbn)(b:Qbn):Option Bool:=
 (Qje a b).bind (fun c=>Qew c)
theorem Qjf (l m){r}(h:Qic l m=some r):Qh prog 28 [.agg (QW l),.agg (QW m)] [] (Qp (.b r) []):=by
 refine Qh.walk 31 func28 rfl rfl rfl fun C hC=>?_
 refine tg_ hC [.n 8] rfl ?_
 obtain⟨g,i,h⟩:=Qf h
 replace h:Qew g=some r:=h
 refine AK.meetX (fun σ=>σ=⟨[(4,.b g)],[]⟩) ?_ ?_
 ·replace h:=i
  refine tg_ hC [.n 7] rfl ?_
  refine bg_ h (fun a h=>Qa hC [.S 10 (.b true),.n 7] rfl (tc_ a) ?_) fun a h=>Qa hC [.S 10 (.b false),.n 22,.K [4] []] rfl (tc_ a) ?_
  ·rcases QH h with⟨c,h⟩|⟨c,h⟩
   ·obtain⟨o,j,h⟩:=Qf h
    refine Qa hC [.S 17 (.b true),.n 4,.cm (.fn) [] [] [] [.d,.d,.d] [] (.b o),.n 2] rfl ⟨(tc_ c),(QaQ _ _ j)⟩ ?_
    rcases QH h with⟨e,h⟩|⟨e,h⟩
    ·obtain⟨k,f,h⟩:=Qf h
     refine Qa hC [.S 24 (.b true),.n 4,.cm (.fn) [] [] [] [.d,.d,.d] [] (.b k),.n 3,.K [4] []] rfl ⟨(tc_ e),(Qa8 _ _ f)⟩ ?_
     cases h
     exact AK.met rfl
    refine Qa hC [.S 24 (.b false),.n 8,.K [4] []] rfl (tc_ e) ?_
    cases h
    exact AK.met rfl
   refine Qa hC [.S 17 (.b false),.n 15,.K [4] []] rfl (tc_ c) ?_
   cases h
   exact AK.met rfl
  cases h
  exact AK.met rfl
 rintro σ rfl
 replace h:Qew g=some r:=h
 refine tg_ hC [.n 2] rfl ?_
 cases h
 exact d1_ rfl rfl tt_
def QiK (a:(List Qi))(o:(List Int))(b:(Int×Qbg))(d:(Int×Qbg))(c:(Int×Qbn)):Option Bool:=
 bif ((a.length:Int)==3)then
 (idx a 0).bind fun e=>
 bif (e.Id==2)then
 (idx a 2).bind fun f=>
 bif (f.Id==9)then
 (Qah a 5).bind fun g=>
 bif (g==1)then
 (Qah a 4).bind fun h=>
 bif (h==(-1))then
 (QcL a 3).bind fun i=>
 (Qh9 i ([9,2,5]:List Int)).bind fun j=>
 bif j then
 (Qas a 10).bind fun k=>
 bif k then
 (Qas a 9).bind fun l=>
 bif (!l)then
 (Qcf a 5).bind fun m=>
 bif ((m.length:Int)==2)then
 bif ((o.length:Int)==56)then
 bif (b.2.Do==6)then
 bif (b.1==0)then
 bif (d.1==4)then
 bif (c.1==0)then
 (Qic c.2 (Qbn.mk ([([(1,2)]:List (Int×Int)),([]:QBg)]:List QBg) a 10 4)).bind fun n=>
 some n
 else
 some false
 else
 some false
 else
 some false
 else
 some false
 else
 some false
 else
 some false
 else
 some false
 else
 some false
 else
 some false
 else
 some false
 else
 some false
 else
 some false
 else
 some false
 else
 some false
def QdX (a:Bool):Option Bool:=
 some a
def Qe8  : Option Bool:=
 (Qem 5 3).bind fun h=>
 (Qb4 ([]:List Qi) h).bind fun i=>
 (Qem 2 3).bind fun j=>
 (Qb4 i j).bind fun k=>
 (Qem 9 1).bind fun l=>
 (Qb4 k l).bind fun g=>
 (QeZ (Qbg.mk 6 0 (QaF.mk 0 ([]:(List Int)) ([]:(List Int)) ([]:(List Int))) 0)).bind fun a=>
 bif ((a.length:Int) != 56)then
 some false
 else
 (Qdd a).bind fun b=>
 (chk (decide (0≤1)&&decide (1≤a.length)&&decide (a.length≤a.length))).bind fun _=>
 (Qdd ((a.drop 1).take (a.length-1))).bind fun c=>
 (Qe0 (Qbn.mk ([([(1,2)]:List (Int×Int)),([]:QBg)]:List QBg) g 10 4)).bind fun d=>
 (Qe2 d).bind fun e=>
 (QiK g a b c e).bind (fun f=>QdX f)
theorem QiL  {r:Bool}(h:Qe8  = some r):Qh prog 9 [] [] (Qp (.b r) []):=by
 refine Qh.walk 118 func9 rfl rfl rfl fun C hC=>?_
 obtain⟨x3,a6,h⟩:=Qf h
 obtain⟨x4,a7,h⟩:=Qf h
 obtain⟨x5,a8,h⟩:=Qf h
 obtain⟨x6,a9,h⟩:=Qf h
 obtain⟨x7,b0,h⟩:=Qf h
 obtain⟨z,b1,h⟩:=Qf h
 obtain⟨H,b2,h⟩:=Qf h
 refine Qa hC [.n 7,.o (.c false [.d,.d] (.agg (Qc x3))),.o (.co false [.n 11,.d] 11 (x4.map Qc) x4.length),.o (.c false [.d,.d] (.agg (Qc x5))),.frz 11 (x4.map Qc) [11] [],.o (.co false [.d,.d] 11 (x6.map Qc) x6.length),.o (.c false [.d,.d] (.agg (Qc x7))),.frz 13 (x6.map Qc) [13] [],.o (.co false [.d,.d] 11 (z.map Qc) z.length),.n 5,.v .no [none,none,none,some 1,some 1,some 1,none] (.agg (QN (Qbg.mk 6 0 (QaF.mk 0 ([]:(List Int)) ([]:(List Int)) ([]:(List Int))) 0))),.o (.co false [.d] 1 (H.map Qn) H.length),.n 11] rfl ⟨⟨⟨⟨⟨⟨⟨⟨⟨⟨tt_,(Qen _ _ a6)⟩,⟨(Qdn _ _ a7),Qj,.inl rfl⟩⟩,(Qen _ _ a8)⟩,⟨tt_,(QbI Qj)⟩⟩,⟨(Qdn _ _ a9),Qj,.inl rfl⟩⟩,(Qen _ _ b0)⟩,⟨tt_,(QbI Qj)⟩⟩,⟨(Qdn _ _ b1),Qj,.inl rfl⟩⟩,rfl⟩,⟨(QgS _ b2),Qj,.inl rfl⟩⟩ ?_
 rcases QH h with⟨a,h⟩|⟨a,h⟩
 ·refine Qa hC [.T,.n 7] rfl ⟨tt_,a⟩ ?_
  cases h
  exact d1_ rfl rfl tt_
 obtain⟨A,J,h⟩:=Qf h
 obtain⟨y,h⟩:=Qb3 h
 obtain⟨B,L,h⟩:=Qf h
 obtain⟨D,M,h⟩:=Qf h
 obtain⟨x,N,h⟩:=Qf h
 refine Qa hC [.F,.n 5,.frz 17 (H.map Qn) [2,17,18,22] [],.o (.c false [.d] (.tup [.agg (QN A.2),.I A.1])),.n 5,.O 3 (.var (QN A.2)),.n 6,.o (.any (.sl 1 (((H.drop 1).take (H.length-1)).map Qn)) none),.o (.c false [.d] (.tup [.agg (QN B.2),.I B.1])),.n 5,.O 5 (.var (QN B.2)),.n 5,.v .no [] (.agg (QF (1,2))),.v (.bd []) [] (.sl 2 (([(1,2)]:List (Int×Int)).map QF)),.v (.bd [none,some 2]) [] (.sl 1 (([([(1,2)]:List (Int×Int)),([]:QBg)]:List QBg).map Q0)),.n 1,.v .no [] (.agg [.sl 1 (([([(1,2)]:List (Int×Int)),([]:QBg)]:List QBg).map Q0),.own 15 z.length,.I 10,.I 4]),.n 2,.O 7 (.var [.sl 1 (([([(1,2)]:List (Int×Int)),([]:QBg)]:List QBg).map Q0),.own 15 z.length,.I 10,.I 4]),.n 5,.frz 15 (z.map Qc) [1,15,35,36,38] [7],.cm (.fn) [] [(39,600)] [] [.d] [(600,.arr 1 (D.map Qn))] (.own 600 D.length),.frz 39 (D.map Qn) [39] [],.o (.c false [.d] (.tup [.agg (QW x.2),.I x.1])),.n 5,.O 8 (.var (QW x.2)),.n 4] rfl ⟨⟨⟨⟨⟨⟨⟨⟨⟨⟨⟨⟨⟨⟨⟨⟨⟨tt_,a⟩,⟨⟨⟨⟨tt_,(QbI Qj)⟩,(QbI Qj)⟩,(QbI Qj)⟩,(QbI Qj)⟩⟩,(Qd2 _ J)⟩,rfl⟩,(fun σ h1 h2 _=>Stp.sliceD rfl rfl (Qu hC.n rfl) (h1 _ _ rfl) (Qm.es rfl) (Bnd.val (h1 _ _ rfl) (Qa3 (Qkl y)) rfl) (Bnd.none_ Qj) (Qa3 (Qkm y)) (Nat.le_of_eq Qj.symm) Qln)⟩,(Qd2 _ L)⟩,rfl⟩,rfl⟩,rfl⟩,rfl⟩,rfl⟩,rfl⟩,⟨⟨⟨⟨⟨⟨tt_,(QbI Qj)⟩,(QbI Qj)⟩,(QbI Qj)⟩,⟨(QbI Qj),tt_⟩⟩,⟨(QbI Qj),tt_⟩⟩,⟨(QbI Qj),tt_⟩⟩⟩,(QgU _ M)⟩,⟨tt_,(QbI Qj)⟩⟩,(QgX _ N)⟩,rfl⟩ ?_
 obtain⟨E,P,h⟩:=Qf h
 replace h:QdX E=some r:=h
 refine AK.meetX (fun σ=>σ=⟨[(0,.b E)],[]⟩) ?_ ?_
 ·replace h:=P
  refine Qa hC [.n 2,.o (.ln z.length),.n 2] rfl ⟨tt_,Qj⟩ ?_
  rcases QH h with⟨e,h⟩|⟨e,h⟩
  ·obtain⟨b3,U,h⟩:=Qf h
   refine Qa hC [.S 46 (.b true),.n 1,.o (.row (Qc b3)),.n 5] rfl ⟨(tc_ e),(QaU U)⟩ ?_
   rcases QH h with⟨f,h⟩|⟨f,h⟩
   ·obtain⟨b4,W,h⟩:=Qf h
    refine Qa hC [.S 53 (.b true),.n 1,.o (.row (Qc b4)),.n 5] rfl ⟨(tc_ f),(QaU W)⟩ ?_
    rcases QH h with⟨g,h⟩|⟨g,h⟩
    ·obtain⟨b5,X,h⟩:=Qf h
     refine Qa hC [.S 60 (.b true),.n 1,.o (.c false [.d,.d] (.I b5)),.n 3] rfl ⟨(tc_ g),(Qbo _ _ X)⟩ ?_
     rcases QH h with⟨i,h⟩|⟨i,h⟩
     ·obtain⟨b6,Y,h⟩:=Qf h
      refine Qa hC [.S 65 (.b true),.n 1,.o (.c false [.d,.d] (.I b6)),.n 3] rfl ⟨(tc_ i),(Qbo _ _ Y)⟩ ?_
      rcases QH h with⟨j,h⟩|⟨j,h⟩
      ·obtain⟨G,Z,h⟩:=Qf h
       obtain⟨b7,a0,h⟩:=Qf h
       refine Qa hC [.S 70 (.b true),.n 1,.o (.co false [.d,.d] 1 (G.map Qo) G.length),.v (.bd []) [] (.sl 1 (([9,2,5]:List Int).map Qo)),.o (.c true [.o (G.map Qo),.d] (.b b7)),.n 2] rfl ⟨⟨⟨(tc_ j),⟨(QgY (fun _=>0) _ _ Z),Qj,.inl rfl⟩⟩,rfl⟩,⟨(QgJ rfl),(Qjc _ _ a0)⟩⟩ ?_
       rcases QH h with⟨k,h⟩|⟨k,h⟩
       ·obtain⟨b8,a1,h⟩:=Qf h
        refine Qa hC [.S 76 (.b true),.n 1,.o (.c false [.d,.d] (.b b8)),.n 2] rfl ⟨(tc_ k),(Qbc _ _ a1)⟩ ?_
        rcases QH h with⟨l,h⟩|⟨l,h⟩
        ·obtain⟨b9,a2,h⟩:=Qf h
         refine Qa hC [.S 80 (.b true),.n 1,.o (.c false [.d,.d] (.b b9)),.n 3] rfl ⟨(tc_ l),(Qbc _ _ a2)⟩ ?_
         rcases QH h with⟨m,h⟩|⟨m,h⟩
         ·obtain⟨a3,a4,h⟩:=Qf h
          refine Qa hC [.S 85 (.b true),.n 1,.o (.co false [.d,.d] 11 (a3.map Qc) a3.length),.n 4] rfl ⟨(tc_ m),⟨(Qep _ _ a4),Qj,.inl rfl⟩⟩ ?_
          refine bg_ h (fun p h=>Qa hC [.S 91 (.b true),.n 1,.o (.ln H.length),.n 3] rfl ⟨(tc_ p),Qj⟩ ?_) fun p h=>Qa hC [.S 91 (.b false),.n 28,.K [0] []] rfl (tc_ p) ?_
          ·refine bg_ h (fun q h=>Qa hC [.S 96 (.b true),.n 5] rfl (tc_ q) ?_) fun q h=>Qa hC [.S 96 (.b false),.n 23,.K [0] []] rfl (tc_ q) ?_
           ·refine bg_ h (fun s h=>Qa hC [.S 101 (.b true),.n 4] rfl (tc_ s) ?_) fun s h=>Qa hC [.S 101 (.b false),.n 18,.K [0] []] rfl (tc_ s) ?_
            ·refine bg_ h (fun t h=>Qa hC [.S 105 (.b true),.n 4] rfl (tc_ t) ?_) fun t h=>Qa hC [.S 105 (.b false),.n 14,.K [0] []] rfl (tc_ t) ?_
             ·refine bg_ h (fun u h=>Qa hC [.S 109 (.b true),.n 4] rfl (tc_ u) ?_) fun u h=>Qa hC [.S 109 (.b false),.n 10,.K [0] []] rfl (tc_ u) ?_
              ·rcases QH h with⟨w,h⟩|⟨w,h⟩
               ·obtain⟨c0,a5,h⟩:=Qf h
                refine Qa hC [.S 113 (.b true),.v .no [] (.agg (QW x.2)),.v .no [] (.agg (QW (Qbn.mk ([([(1,2)]:List (Int×Int)),([]:QBg)]:List QBg) z 10 4))),.o (.c false [.d,.d] (.b c0)),.n 3,.K [0] []] rfl ⟨⟨⟨(tc_ w),rfl⟩,rfl⟩,(Qjf _ _ a5)⟩ ?_
                cases h
                exact AK.met rfl
               refine Qa hC [.S 113 (.b false),.n 6,.K [0] []] rfl (tc_ w) ?_
               cases h
               exact AK.met rfl
              cases h
              exact AK.met rfl
             cases h
             exact AK.met rfl
            cases h
            exact AK.met rfl
           cases h
           exact AK.met rfl
          cases h
          exact AK.met rfl
         refine Qa hC [.S 85 (.b false),.n 34,.K [0] []] rfl (tc_ m) ?_
         cases h
         exact AK.met rfl
        refine Qa hC [.S 80 (.b false),.n 39,.K [0] []] rfl (tc_ l) ?_
        cases h
        exact AK.met rfl
       refine Qa hC [.S 76 (.b false),.n 43,.K [0] []] rfl (tc_ k) ?_
       cases h
       exact AK.met rfl
      refine Qa hC [.S 70 (.b false),.n 49,.K [0] []] rfl (tc_ j) ?_
      cases h
      exact AK.met rfl
     refine Qa hC [.S 65 (.b false),.n 54,.K [0] []] rfl (tc_ i) ?_
     cases h
     exact AK.met rfl
    refine Qa hC [.S 60 (.b false),.n 59,.K [0] []] rfl (tc_ g) ?_
    cases h
    exact AK.met rfl
   refine Qa hC [.S 53 (.b false),.n 66,.K [0] []] rfl (tc_ f) ?_
   cases h
   exact AK.met rfl
  refine Qa hC [.S 46 (.b false),.n 73,.K [0] []] rfl (tc_ e) ?_
  cases h
  exact AK.met rfl
 rintro σ rfl
 replace h:QdX E=some r:=h
 refine tg_ hC [.n 2] rfl ?_
 cases h
 exact d1_ rfl rfl tt_
def Qbd (b:(List Qi))(f:Int)(a:Int):Option ((Int×Int)⊕Int):=
 bif (decide (a<(b.length:Int)))then
 (idx b a).bind fun c=>
 (idx b a).bind fun d=>
 (idx b a).bind fun e=>
 some (.inl ((w64 ((w64 ((w64 (f+(c.Mode.Vars.length:Int)))+(d.Mode.Ins.length:Int)))+(e.Mode.Outs.length:Int))),(w64 (a+1))))
 else
 some (.inr f)
def Qg0 (a:Int):Option Bool:=
 some (decide (a≤1000))
def QeS (a:(List Qi)):Option Bool:=
 bif (decide (80<(a.length:Int)))then
 some false
 else
 (QM (fun st=>Qbd a st.1 st.2) (0,0)).bind (fun q=>Qg0 q)
theorem QjA (f){r}(h:QeS f=some r):Qh prog 10 [.sl 11 (f.map Qc)] [] (Qp (.b r) []):=by
 refine Qh.walk 41 func10 rfl rfl rfl fun C hC=>?_
 refine Qa hC [.n 9,.o (.ln f.length),.n 3] rfl ⟨tt_,Qj⟩ ?_
 refine bg_ h (fun d h=>Qa hC [.T,.n 7,.K [2] []] rfl ⟨tt_,d⟩ ?_) fun d h=>Qa hC [.F,.n 14,.K [0,3,4] []] rfl ⟨tt_,d⟩ ?_
 ·cases h
  exact d1_ rfl rfl tt_
 obtain⟨u,g,h⟩:=Qf h
 refine AK.loop (body:=(fun st=>Qbd f st.1 st.2)) (fun st σ=>σ=⟨[(0,.sl 11 (f.map Qc)),(3,.I st.1),(4,.I st.2)],[]⟩) (fun q e σ=>e=.exit 0∧σ=⟨[(3,.I q)],[]⟩) g rfl ?_ ?_
 ·rintro ⟨v,w⟩ o σ rfl h
  refine Qa hC [.n 5,.o (.ln f.length),.n 3] rfl ⟨tt_,Qj⟩ ?_
  rcases QH h with⟨c,h⟩|⟨c,h⟩
  ·obtain⟨i,j,h⟩:=Qf h
   obtain⟨k,l,h⟩:=Qf h
   obtain⟨p,t,h⟩:=Qf h
   refine Qa hC [.T,.n 4,.K [0,3,4] []] rfl ⟨tt_,c⟩ ?_
   refine AK.draw2 Qm hC mixed [.N,.N,.N,.a (.row (Qc i)) none false,.N,.N,.N,.a (.ln i.Mode.Vars.length) none false,.N,.N,.N,.a (.row (Qc k)) none false,.N,.N,.N,.a (.ln k.Mode.Ins.length) none false,.N,.N,.N,.a (.row (Qc p)) none false,.N,.N,.N,.a (.ln p.Mode.Outs.length) none false,.N,.m .s] [] [] [0,3,4] [] rfl rfl rfl ⟨⟨⟨⟨⟨⟨tt_,(QaU j)⟩,Qj⟩,(QaU l)⟩,Qj⟩,(QaU t)⟩,Qj⟩ rfl (by kernel_rfl) rfl rfl rfl ?_
   refine tg_ hC [.n 7,.K [0,3,4] []] rfl ?_
   cases h
   exact QaT rfl rfl
  refine Qa hC [.F,.n 2,.K [3] []] rfl ⟨tt_,c⟩ ?_
  cases h
  exact QaP rfl (an_ rfl rfl)
 replace h:Qg0 u=some r:=h
 rintro e σ ⟨rfl,rfl⟩
 refine tg_ hC [.n 10] rfl ?_
 cases h
 exact d1_ rfl rfl tt_
def Qex (b:Bool)(c:(List Qi))(next_3:Int):Option Bool:=
 bif (!b)then
 some true
 else
 (Qas c next_3).bind fun a=>
 some (!a)
def Qey (a:Int)(e:(List Qi))(b:Int):Option Bool:=
 bif (decide (a<0))then
 some true
 else
 (idx e a).bind fun c=>
 bif (decide (c.Until<1))then
 some true
 else
 (idx e a).bind fun d=>
 some (decide (b<d.Until))
def QcA (a:Int)(b:Bool):Option (Int⊕(Unit⊕Unit)):=
 bif b then
 some (.inr (.inl ()))
 else
 some (.inl (w64 (a+1)))
def Q7 (b:(List Int))(g:(List Qi))(c:Int)(a:Int):Option (Int⊕(Unit⊕Unit)):=
 bif (decide (a<(b.length:Int)))then
 (idx b a).bind fun d=>
 (Qah g d).bind fun e=>
 (Qey e g c).bind (fun f=>QcA a f)
 else
 some (.inr (.inr ()))
def Qez : Option Bool:=
 some false
def QeA (k:Bool)(b:(List Qi))(next_3:Int)(j:Qi)(a:(List Qi))(e:Bool)(c:Int)(d:(List Qi)):Option Bool:=
 bif k then
 (Qas b next_3).bind fun f=>
 bif f then
 (Qah b j.Id).bind fun g=>
 bif (g==(-1))then
 (Qah a j.Id).bind fun h=>
 bif (decide (0≤h))then
 bif (!e)then
 bif (decide (0≤c))then
 bif ((a.length:Int)==(d.length:Int))then
 bif ((b.length:Int)==(w64 ((d.length:Int)-1)))then
 some true
 else
 bif (!(decide (0≤c)))then
 bif ((a.length:Int)==(w64 ((d.length:Int)+1)))then
 some ((b.length:Int)==(d.length:Int))
 else
 some false
 else
 some false
 else
 bif (!(decide (0≤c)))then
 bif ((a.length:Int)==(w64 ((d.length:Int)+1)))then
 some ((b.length:Int)==(d.length:Int))
 else
 some false
 else
 some false
 else
 bif (!(decide (0≤c)))then
 bif ((a.length:Int)==(w64 ((d.length:Int)+1)))then
 some ((b.length:Int)==(d.length:Int))
 else
 some false
 else
 some false
 else
 bif (decide (64<(a.length:Int)))then
 bif (decide (0≤c))then
 bif ((a.length:Int)==(d.length:Int))then
 bif ((b.length:Int)==(w64 ((d.length:Int)-1)))then
 some true
 else
 bif (!(decide (0≤c)))then
 bif ((a.length:Int)==(w64 ((d.length:Int)+1)))then
 some ((b.length:Int)==(d.length:Int))
 else
 some false
 else
 some false
 else
 bif (!(decide (0≤c)))then
 bif ((a.length:Int)==(w64 ((d.length:Int)+1)))then
 some ((b.length:Int)==(d.length:Int))
 else
 some false
 else
 some false
 else
 bif (!(decide (0≤c)))then
 bif ((a.length:Int)==(w64 ((d.length:Int)+1)))then
 some ((b.length:Int)==(d.length:Int))
 else
 some false
 else
 some false
 else
 (Qas a next_3).bind fun i=>
 bif i then
 bif (decide (0≤c))then
 bif ((a.length:Int)==(d.length:Int))then
 bif ((b.length:Int)==(w64 ((d.length:Int)-1)))then
 some true
 else
 bif (!(decide (0≤c)))then
 bif ((a.length:Int)==(w64 ((d.length:Int)+1)))then
 some ((b.length:Int)==(d.length:Int))
 else
 some false
 else
 some false
 else
 bif (!(decide (0≤c)))then
 bif ((a.length:Int)==(w64 ((d.length:Int)+1)))then
 some ((b.length:Int)==(d.length:Int))
 else
 some false
 else
 some false
 else
 bif (!(decide (0≤c)))then
 bif ((a.length:Int)==(w64 ((d.length:Int)+1)))then
 some ((b.length:Int)==(d.length:Int))
 else
 some false
 else
 some false
 else
 some false
 else
 some false
 else
 some false
 else
 some false
 else
 some false
def QcB (a:Bool):Option Bool:=
 some a
def Qbz (f:(List Qi))(g:Qi)(h:Bool)(a:(List Qi))(next_3:Int)(b:(List Qi))(c:Bool):Option Bool:=
 (Qah f g.Id).bind fun d=>
 (QeA h a next_3 g b c d f).bind (fun e=>QcB e)
def QbA (h:Bool)(b:(List Qi))(c:Qi)(next_3:Int)(a:Int)(i:Bool):Option Bool:=
 bif i then
 some h
 else
 (Qb4 b c).bind fun d=>
 (Qcf b c.Id).bind fun e=>
 (Qas ([c]:List Qi) next_3).bind fun f=>
 (QcL b a).bind fun g=>
 (QM (fun st=>Q7 g b a st) 0).bind (Sum.elim (fun q=>Qez) (fun q=>Qbz b c h e next_3 d f))
def Qbs (b:(List Qi))(c:Qi)(next_3:Int)(a:Int):Option Bool:=
 (Qe8).bind fun d=>
 (QeS b).bind fun e=>
 (Qex e b next_3).bind (fun f=>QbA d b c next_3 a f)
theorem QhA (a k next_3 f){r}(h:Qbs a k next_3 f=some r):Qh prog 6 [.sl 11 (a.map Qc),.agg (Qc k),.I next_3,.I f] [] (Qp (.b r) []):=by
 refine Qh.walk 151 func6 rfl rfl rfl fun C hC=>?_
 obtain⟨x7,d5,h⟩:=Qf h
 obtain⟨x8,d6,h⟩:=Qf h
 refine Qa hC [.n 8,.o (.c false [] (.b x7)),.n 6,.o (.c false [.d] (.b x8)),.n 5] rfl ⟨⟨tt_,(QiL  d5)⟩,(QjA _ d6)⟩ ?_
 obtain⟨x9,b8,h⟩:=Qf h
 replace h:QbA x7 a k next_3 f x9=some r:=h
 refine AK.meetX (fun σ=>σ=⟨[(0,.sl 11 (a.map Qc)),(2,.I next_3),(3,.I f),(5,.loc 5 0 0),(9,.b x7),(28,.b x9)],[(5,.var (Qc k))]⟩) ?_ ?_
 ·replace h:=b8
  refine tg_ hC [.n 4] rfl ?_
  rcases QH h with⟨l,h⟩|⟨l,h⟩
  ·refine Qa hC [.S 23 (.b true),.n 6,.K [0,2,3,5,9,28] [5]] rfl (tc_ l) ?_
   cases h
   exact AK.met rfl
  obtain⟨d7,b9,h⟩:=Qf h
  refine Qa hC [.S 23 (.b false),.n 2,.o (.c false [.d,.d] (.b d7)),.n 3,.K [0,2,3,5,9,28] [5]] rfl ⟨(tc_ l),(Qbc _ _ b9)⟩ ?_
  cases h
  exact AK.met rfl
 rintro σ rfl
 replace h:QbA x7 a k next_3 f x9=some r:=h
 refine tg_ hC [.n 1] rfl ?_
 rcases QH h with⟨m,h⟩|⟨m,h⟩
 ·refine Qa hC [.T,.n 8] rfl ⟨tt_,m⟩ ?_
  cases h
  exact d1_ rfl rfl tt_
 obtain⟨g,c0,h⟩:=Qf h
 obtain⟨i,c1,h⟩:=Qf h
 obtain⟨p,c2,h⟩:=Qf h
 obtain⟨j,c3,h⟩:=Qf h
 refine Qa hC [.F,.n 5,.v .no [] (.agg (Qc k)),.o (.co false [.d,.d] 11 (g.map Qc) g.length),.n 8,.o (.co false [.d,.d] 11 (i.map Qc) i.length),.n 5,.v .no [] (.agg (Qc k)),.v (.bd []) [] (.sl 11 (([k]:List Qi).map Qc)),.n 1,.o (.c false [.d,.d] (.b p)),.n 7,.o (.co false [.d,.d] 1 (j.map Qo) j.length),.n 10,.K [0,2,3,5,9,11,12,13,14,15] [5,32,36,43]] rfl ⟨⟨⟨⟨⟨⟨⟨⟨tt_,m⟩,rfl⟩,⟨(Qdn _ _ c0),Qj,.inl rfl⟩⟩,⟨(Qep _ _ c1),Qj,.inl rfl⟩⟩,rfl⟩,rfl⟩,(Qbc _ _ c2)⟩,⟨(QgY (fun _=>0) _ _ c3),Qj,.inl rfl⟩⟩ ?_
 obtain⟨d8,c4,h⟩:=Qf h
 refine AK.loop (body:=(fun st=>Q7 j a f st)) (fun st σ=>σ=⟨[(0,.sl 11 (a.map Qc)),(2,.I next_3),(3,.I f),(5,.loc 5 0 0),(9,.b x7),(11,.own 32 g.length),(12,.own 36 i.length),(13,.b p),(14,.own 43 j.length),(15,.I st)],[(5,.var (Qc k)),(32,.arr 11 (g.map Qc)),(36,.arr 11 (i.map Qc)),(43,.arr 1 (j.map Qo))]⟩) (Sum.elim (fun q e σ=>e=.ret∧σ=⟨[(8,.b false)],[]⟩) (fun q e σ=>e=.exit 0∧σ=⟨[(0,.sl 11 (a.map Qc)),(2,.I next_3),(5,.loc 5 0 0),(9,.b x7),(11,.own 32 g.length),(12,.own 36 i.length),(13,.b p)],[(5,.var (Qc k)),(32,.arr 11 (g.map Qc)),(36,.arr 11 (i.map Qc))]⟩)) c4 rfl ?_ ?_
 ·rintro b5 o σ rfl h
  refine tg_ hC [.n 9] rfl ?_
  rcases QH h with⟨s,h⟩|⟨s,h⟩
  ·obtain⟨d9,b4,h⟩:=Qf h
   obtain⟨e0,c5,h⟩:=Qf h
   refine Qa hC [.T,.n 10,.o (.row (Qo d9)),.o (.c false [.d,.d] (.I e0)),.n 4] rfl ⟨⟨⟨⟨tt_,s⟩,(QaV b4 rfl)⟩,(QJ (Qba b4).2)⟩,(Qbo _ _ c5)⟩ ?_
   obtain⟨b6,c6,h⟩:=Qf h
   replace h:QcA b5 b6=some o:=h
   refine AK.meetX (fun σ=>σ=⟨[(0,.sl 11 (a.map Qc)),(2,.I next_3),(3,.I f),(5,.loc 5 0 0),(9,.b x7),(11,.own 32 g.length),(12,.own 36 i.length),(13,.b p),(14,.own 43 j.length),(15,.I b5),(74,.b b6)],[(5,.var (Qc k)),(32,.arr 11 (g.map Qc)),(36,.arr 11 (i.map Qc)),(43,.arr 1 (j.map Qo))]⟩) ?_ ?_
   ·replace h:=c6
    refine tg_ hC [.n 4] rfl ?_
    rcases QH h with⟨t,h⟩|⟨t,h⟩
    ·refine Qa hC [.S 58 (.b true),.n 17,.K [0,2,3,5,9,11,12,13,14,15,74] [5,32,36,43]] rfl (tc_ t) ?_
     cases h
     exact AK.met rfl
    obtain⟨e1,c7,h⟩:=Qf h
    refine Qa hC [.S 58 (.b false),.n 2,.o (.row (Qc e1)),.n 5] rfl ⟨(tc_ t),(QaU c7)⟩ ?_
    rcases QH h with⟨u,h⟩|⟨u,h⟩
    ·refine Qa hC [.S 66 (.b true),.n 9,.K [0,2,3,5,9,11,12,13,14,15,74] [5,32,36,43]] rfl (tc_ u) ?_
     cases h
     exact AK.met rfl
    obtain⟨e2,c8,h⟩:=Qf h
    refine Qa hC [.S 66 (.b false),.n 2,.o (.row (Qc e2)),.n 6,.K [0,2,3,5,9,11,12,13,14,15,74] [5,32,36,43]] rfl ⟨(tc_ u),(QaU c8)⟩ ?_
    cases h
    exact AK.met rfl
   rintro σ rfl
   replace h:QcA b5 b6=some o:=h
   refine tg_ hC [.n 1] rfl ?_
   refine bg_ h (fun w h=>Qa hC [.T,.n 8,.K [8] []] rfl ⟨tt_,w⟩ ?_) fun w h=>Qa hC [.F,.n 8,.K [0,2,3,5,9,11,12,13,14,15] [5,32,36,43]] rfl ⟨tt_,w⟩ ?_
   ·cases h
    exact Qgu rfl (an_ rfl rfl)
   cases h
   exact QaT rfl rfl
  refine Qa hC [.F,.n 2,.K [0,2,5,9,11,12,13] [5,32,36]] rfl ⟨tt_,s⟩ ?_
  cases h
  exact QaP rfl (an_ rfl rfl)
 rcases d8 with(_ | _)
 ·replace h:Qez=some r:=h
  rintro e σ ⟨rfl,rfl⟩
  refine tg_ hC [.n 2] rfl ?_
  cases h
  exact d1_ rfl rfl tt_
 replace h:Qbz a k x7 i next_3 g p=some r:=h
 rintro e σ ⟨rfl,rfl⟩
 obtain⟨e3,c9,h⟩:=Qf h
 refine Qa hC [.n 7,.o (.c false [.d,.d] (.I e3)),.n 5] rfl ⟨tt_,(Qbo _ _ c9)⟩ ?_
 obtain⟨b7,d0,h⟩:=Qf h
 replace h:QcB b7=some r:=h
 refine AK.meetX (fun σ=>σ=⟨[(8,.b b7)],[]⟩) ?_ ?_
 ·replace h:=d0
  refine tg_ hC [.n 3] rfl ?_
  rcases QH h with⟨x,h⟩|⟨x,h⟩
  ·obtain⟨e4,d1,h⟩:=Qf h
   refine Qa hC [.S 81 (.b true),.n 2,.o (.c true [.o (i.map Qc),.d] (.b e4)),.n 2] rfl ⟨(tc_ x),⟨(QgJ rfl),(Qbc _ _ d1)⟩⟩ ?_
   rcases QH h with⟨y,h⟩|⟨y,h⟩
   ·obtain⟨e5,d2,h⟩:=Qf h
    refine Qa hC [.S 86 (.b true),.n 3,.o (.c true [.o (i.map Qc),.d] (.I e5)),.n 3] rfl ⟨(tc_ y),⟨(QgJ rfl),(Qbo _ _ d2)⟩⟩ ?_
    rcases QH h with⟨z,h⟩|⟨z,h⟩
    ·obtain⟨e6,d3,h⟩:=Qf h
     refine Qa hC [.S 93 (.b true),.n 3,.o (.c true [.o (g.map Qc),.d] (.I e6)),.n 3] rfl ⟨(tc_ z),⟨(QgJ rfl),(Qbo _ _ d3)⟩⟩ ?_
     refine bg_ h (fun A h=>Qa hC [.S 100 (.b true),.n 3] rfl (tc_ A) ?_) fun A h=>Qa hC [.S 100 (.b false),.n 52,.K [8] []] rfl (tc_ A) ?_
     ·refine bg_ h (fun B h=>Qa hC [.S 103 (.b true),.n 13] rfl (tc_ B) ?_) fun B h=>Qa hC [.S 103 (.b false),.n 5] rfl (tc_ B) ?_
      ·refine bg_ h (fun D h=>Qa hC [.S 116 (.b true),.n 3,.o (.ln a.length),.n 3] rfl ⟨(tc_ D),Qj⟩ ?_) fun D h=>Qa hC [.S 116 (.b false),.n 18] rfl (tc_ D) ?_
       ·refine bg_ h (fun E h=>Qa hC [.S 123 (.b true),.n 3,.o (.ln a.length),.n 4] rfl ⟨(tc_ E),Qj⟩ ?_) fun E h=>Qa hC [.S 123 (.b false),.n 11] rfl (tc_ E) ?_
        ·refine bg_ h (fun G h=>Qa hC [.S 131 (.b true),.n 21,.K [8] []] rfl (tc_ G) ?_) fun G h=>Qa hC [.S 131 (.b false),.n 3] rfl (tc_ G) ?_
         ·cases h
          exact AK.met rfl
         refine bg_ h (fun H h=>Qa hC [.S 134 (.b true),.n 3,.o (.ln a.length),.n 4] rfl ⟨(tc_ H),Qj⟩ ?_) fun H h=>Qa hC [.S 134 (.b false),.n 18,.K [8] []] rfl (tc_ H) ?_
         ·refine bg_ h (fun J h=>Qa hC [.S 142 (.b true),.n 3,.o (.ln a.length),.n 6,.K [8] []] rfl ⟨(tc_ J),Qj⟩ ?_) fun J h=>Qa hC [.S 142 (.b false),.n 10,.K [8] []] rfl (tc_ J) ?_
          ·cases h
           exact AK.met rfl
          cases h
          exact AK.met rfl
         cases h
         exact AK.met rfl
        refine bg_ h (fun L h=>Qa hC [.S 134 (.b true),.n 3,.o (.ln a.length),.n 4] rfl ⟨(tc_ L),Qj⟩ ?_) fun L h=>Qa hC [.S 134 (.b false),.n 18,.K [8] []] rfl (tc_ L) ?_
        ·refine bg_ h (fun M h=>Qa hC [.S 142 (.b true),.n 3,.o (.ln a.length),.n 6,.K [8] []] rfl ⟨(tc_ M),Qj⟩ ?_) fun M h=>Qa hC [.S 142 (.b false),.n 10,.K [8] []] rfl (tc_ M) ?_
         ·cases h
          exact AK.met rfl
         cases h
         exact AK.met rfl
        cases h
        exact AK.met rfl
       refine bg_ h (fun N h=>Qa hC [.S 134 (.b true),.n 3,.o (.ln a.length),.n 4] rfl ⟨(tc_ N),Qj⟩ ?_) fun N h=>Qa hC [.S 134 (.b false),.n 18,.K [8] []] rfl (tc_ N) ?_
       ·refine bg_ h (fun O h=>Qa hC [.S 142 (.b true),.n 3,.o (.ln a.length),.n 6,.K [8] []] rfl ⟨(tc_ O),Qj⟩ ?_) fun O h=>Qa hC [.S 142 (.b false),.n 10,.K [8] []] rfl (tc_ O) ?_
        ·cases h
         exact AK.met rfl
        cases h
        exact AK.met rfl
       cases h
       exact AK.met rfl
      rcases QH h with⟨P,h⟩|⟨P,h⟩
      ·refine Qa hC [.S 108 (.b true),.n 8] rfl (tc_ P) ?_
       refine bg_ h (fun U h=>Qa hC [.S 116 (.b true),.n 3,.o (.ln a.length),.n 3] rfl ⟨(tc_ U),Qj⟩ ?_) fun U h=>Qa hC [.S 116 (.b false),.n 18] rfl (tc_ U) ?_
       ·refine bg_ h (fun W h=>Qa hC [.S 123 (.b true),.n 3,.o (.ln a.length),.n 4] rfl ⟨(tc_ W),Qj⟩ ?_) fun W h=>Qa hC [.S 123 (.b false),.n 11] rfl (tc_ W) ?_
        ·refine bg_ h (fun X h=>Qa hC [.S 131 (.b true),.n 21,.K [8] []] rfl (tc_ X) ?_) fun X h=>Qa hC [.S 131 (.b false),.n 3] rfl (tc_ X) ?_
         ·cases h
          exact AK.met rfl
         refine bg_ h (fun Y h=>Qa hC [.S 134 (.b true),.n 3,.o (.ln a.length),.n 4] rfl ⟨(tc_ Y),Qj⟩ ?_) fun Y h=>Qa hC [.S 134 (.b false),.n 18,.K [8] []] rfl (tc_ Y) ?_
         ·refine bg_ h (fun Z h=>Qa hC [.S 142 (.b true),.n 3,.o (.ln a.length),.n 6,.K [8] []] rfl ⟨(tc_ Z),Qj⟩ ?_) fun Z h=>Qa hC [.S 142 (.b false),.n 10,.K [8] []] rfl (tc_ Z) ?_
          ·cases h
           exact AK.met rfl
          cases h
          exact AK.met rfl
         cases h
         exact AK.met rfl
        refine bg_ h (fun a0 h=>Qa hC [.S 134 (.b true),.n 3,.o (.ln a.length),.n 4] rfl ⟨(tc_ a0),Qj⟩ ?_) fun a0 h=>Qa hC [.S 134 (.b false),.n 18,.K [8] []] rfl (tc_ a0) ?_
        ·refine bg_ h (fun a1 h=>Qa hC [.S 142 (.b true),.n 3,.o (.ln a.length),.n 6,.K [8] []] rfl ⟨(tc_ a1),Qj⟩ ?_) fun a1 h=>Qa hC [.S 142 (.b false),.n 10,.K [8] []] rfl (tc_ a1) ?_
         ·cases h
          exact AK.met rfl
         cases h
         exact AK.met rfl
        cases h
        exact AK.met rfl
       refine bg_ h (fun a2 h=>Qa hC [.S 134 (.b true),.n 3,.o (.ln a.length),.n 4] rfl ⟨(tc_ a2),Qj⟩ ?_) fun a2 h=>Qa hC [.S 134 (.b false),.n 18,.K [8] []] rfl (tc_ a2) ?_
       ·refine bg_ h (fun a3 h=>Qa hC [.S 142 (.b true),.n 3,.o (.ln a.length),.n 6,.K [8] []] rfl ⟨(tc_ a3),Qj⟩ ?_) fun a3 h=>Qa hC [.S 142 (.b false),.n 10,.K [8] []] rfl (tc_ a3) ?_
        ·cases h
         exact AK.met rfl
        cases h
        exact AK.met rfl
       cases h
       exact AK.met rfl
      obtain⟨e7,d4,h⟩:=Qf h
      refine Qa hC [.S 108 (.b false),.n 2,.o (.c true [.o (g.map Qc),.d] (.b e7)),.n 3] rfl ⟨(tc_ P),⟨(QgJ rfl),(Qbc _ _ d4)⟩⟩ ?_
      refine bg_ h (fun a4 h=>Qa hC [.S 114 (.b true),.n 2] rfl (tc_ a4) ?_) fun a4 h=>Qa hC [.S 114 (.b false),.n 38,.K [8] []] rfl (tc_ a4) ?_
      ·refine bg_ h (fun a5 h=>Qa hC [.S 116 (.b true),.n 3,.o (.ln a.length),.n 3] rfl ⟨(tc_ a5),Qj⟩ ?_) fun a5 h=>Qa hC [.S 116 (.b false),.n 18] rfl (tc_ a5) ?_
       ·refine bg_ h (fun a6 h=>Qa hC [.S 123 (.b true),.n 3,.o (.ln a.length),.n 4] rfl ⟨(tc_ a6),Qj⟩ ?_) fun a6 h=>Qa hC [.S 123 (.b false),.n 11] rfl (tc_ a6) ?_
        ·refine bg_ h (fun a7 h=>Qa hC [.S 131 (.b true),.n 21,.K [8] []] rfl (tc_ a7) ?_) fun a7 h=>Qa hC [.S 131 (.b false),.n 3] rfl (tc_ a7) ?_
         ·cases h
          exact AK.met rfl
         refine bg_ h (fun a8 h=>Qa hC [.S 134 (.b true),.n 3,.o (.ln a.length),.n 4] rfl ⟨(tc_ a8),Qj⟩ ?_) fun a8 h=>Qa hC [.S 134 (.b false),.n 18,.K [8] []] rfl (tc_ a8) ?_
         ·refine bg_ h (fun a9 h=>Qa hC [.S 142 (.b true),.n 3,.o (.ln a.length),.n 6,.K [8] []] rfl ⟨(tc_ a9),Qj⟩ ?_) fun a9 h=>Qa hC [.S 142 (.b false),.n 10,.K [8] []] rfl (tc_ a9) ?_
          ·cases h
           exact AK.met rfl
          cases h
          exact AK.met rfl
         cases h
         exact AK.met rfl
        refine bg_ h (fun b0 h=>Qa hC [.S 134 (.b true),.n 3,.o (.ln a.length),.n 4] rfl ⟨(tc_ b0),Qj⟩ ?_) fun b0 h=>Qa hC [.S 134 (.b false),.n 18,.K [8] []] rfl (tc_ b0) ?_
        ·refine bg_ h (fun b1 h=>Qa hC [.S 142 (.b true),.n 3,.o (.ln a.length),.n 6,.K [8] []] rfl ⟨(tc_ b1),Qj⟩ ?_) fun b1 h=>Qa hC [.S 142 (.b false),.n 10,.K [8] []] rfl (tc_ b1) ?_
         ·cases h
          exact AK.met rfl
         cases h
         exact AK.met rfl
        cases h
        exact AK.met rfl
       refine bg_ h (fun b2 h=>Qa hC [.S 134 (.b true),.n 3,.o (.ln a.length),.n 4] rfl ⟨(tc_ b2),Qj⟩ ?_) fun b2 h=>Qa hC [.S 134 (.b false),.n 18,.K [8] []] rfl (tc_ b2) ?_
       ·refine bg_ h (fun b3 h=>Qa hC [.S 142 (.b true),.n 3,.o (.ln a.length),.n 6,.K [8] []] rfl ⟨(tc_ b3),Qj⟩ ?_) fun b3 h=>Qa hC [.S 142 (.b false),.n 10,.K [8] []] rfl (tc_ b3) ?_
        ·cases h
         exact AK.met rfl
        cases h
        exact AK.met rfl
       cases h
       exact AK.met rfl
      cases h
      exact AK.met rfl
     cases h
     exact AK.met rfl
    refine Qa hC [.S 93 (.b false),.n 59,.K [8] []] rfl (tc_ z) ?_
    cases h
    exact AK.met rfl
   refine Qa hC [.S 86 (.b false),.n 66,.K [8] []] rfl (tc_ y) ?_
   cases h
   exact AK.met rfl
  refine Qa hC [.S 81 (.b false),.n 71,.K [8] []] rfl (tc_ x) ?_
  cases h
  exact AK.met rfl
 rintro σ rfl
 replace h:QcB b7=some r:=h
 refine tg_ hC [.n 2] rfl ?_
 cases h
 exact d1_ rfl rfl tt_

end Go.Proofs
