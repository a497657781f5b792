/- What functions of the program do, as functions over plain data, and the walks that show it: printed by a program. -/
import Derived.Test.YtbcmaoldnhphlaaO1V3
import Derived.Test.YtbcmaoldnhphlaaProg
set_option linter.unusedVariables false
set_option linter.unusedSimpArgs false
set_option linter.unusedSectionVars false
set_option linter.deprecated false
set_option maxRecDepth 100000
set_option maxHeartbeats 4000000
noncomputable section
namespace Go.Proofs
open Go Go.RowKit Go.Vm Go.Proofs.Try
structure Qat where
 Task:Int
 Vars:(List Int)
 Ins:(List Int)
 Outs:(List Int)
structure Q3 where
 Most:Int
 Enough:Int
 Open:Int
 Done:Int
 Failed:Int
structure Qi where
 Id:Int
 Mode:Qat
 Batch:Q3
 Until:Int
structure Qae where
 M:(List (List (Int×Int)))
 Items:(List Qi)
 Next:Int
 Now:Int
structure Qa8 where
 Do:Int
 Id:Int
 Mode:Qat
 Num:Int
structure Qd where
 b:(List Int)
 bad:Bool
structure Qf where
 id:Int
 at_:Int
 place:Int
structure Qlk where
 b:(List Int)
 at_:Int
 bad:Bool
def Qo (x:Int):List V:=[.i .i64 x]
def QF (x:(Int×Int)):List V:=[.i .i64 x.1,.i .i64 x.2]
def Q6 (x:(List (Int×Int))):List V:=[.sl 2 (x.map QF)]
def QlK (x:(List Int)):List V:=[.sl 1 (x.map Qo)]
def Qar (x:Qat):List V:=[.i .i64 x.Task,.sl 1 (x.Vars.map Qo),.sl 1 (x.Ins.map Qo),.sl 1 (x.Outs.map Qo)]
def Qaf (x:Q3):List V:=[.i .i64 x.Most,.i .i64 x.Enough,.i .i64 x.Open,.i .i64 x.Done,.i .i64 x.Failed]
def Qc (x:Qi):List V:=[.i .i64 x.Id,.i .i64 x.Mode.Task,.sl 1 (x.Mode.Vars.map Qo),.sl 1 (x.Mode.Ins.map Qo),.sl 1 (x.Mode.Outs.map Qo),.i .i64 x.Batch.Most,.i .i64 x.Batch.Enough,.i .i64 x.Batch.Open,.i .i64 x.Batch.Done,.i .i64 x.Batch.Failed,.i .i64 x.Until]
def Qi0 (x:(List Qi)):List V:=[.sl 11 (x.map Qc)]
def QX (x:Qae):List V:=[.sl 1 (x.M.map Q6),.sl 11 (x.Items.map Qc),.i .i64 x.Next,.i .i64 x.Now]
def QP (x:Qa8):List V:=[.i .i64 x.Do,.i .i64 x.Id,.i .i64 x.Mode.Task,.sl 1 (x.Mode.Vars.map Qo),.sl 1 (x.Mode.Ins.map Qo),.sl 1 (x.Mode.Outs.map Qo),.i .i64 x.Num]
def Qn (x:Int):List V:=[.i .u8 x]
def Qb (x:Qd):List V:=[.sl 1 (x.b.map Qn),.b x.bad]
def Qg (x:Qf):List V:=[.i .i64 x.id,.i .i64 x.at_,.i .i64 x.place]
theorem Qnd (a0 a1 a2 a3 a4 b0 b1 b2 b3 b4:Int):EqT Try.prog 27 [.int .i64 a0,.int .i64 a1,.int .i64 a2,.int .i64 a3,.int .i64 a4] [.int .i64 b0,.int .i64 b1,.int .i64 b2,.int .i64 b3,.int .i64 b4] ((a0==b0)&&((a1==b1)&&((a2==b2)&&((a3==b3)&&(a4==b4))))):=by
 refine⟨by kernel_rfl,fun w=>?_⟩
 have u3:=Try.underlying3
 have g3:=Try.isAgg3
 have z3:=Try.sizeOf3
 have hS:Try.prog.underlying 27=some (.struct (Try.prog.fieldsOf 27)):=by kernel_rfl
 have hp:Try.prog.stoodInHeld 27=false:=by kernel_rfl
 show(Op.equalIn (9999+1) 27 (.agg #[.int .i64 a0,.int .i64 a1,.int .i64 a2,.int .i64 a3,.int .i64 a4]) (.agg #[.int .i64 b0,.int .i64 b1,.int .i64 b2,.int .i64 b3,.int .i64 b4])).run Try.prog w=_
 rw [run_equalIn_agg w 9999 27 _ _ hS hp]
 simp only [Program.fieldsOf,Try.underlying27]
 go_simp
 by_cases h0:a0=b0<;>by_cases h1:a1=b1<;>by_cases h2:a2=b2<;>by_cases h3:a3=b3<;>by_cases h4:a4=b4<;>simp [h0,h1,h2,h3,h4]
theorem Qne (a0 a1 b0 b1:Int):EqT Try.prog 64 [.int .i64 a0,.int .i64 a1] [.int .i64 b0,.int .i64 b1] ((a0==b0)&&(a1==b1)):=by
 refine⟨by kernel_rfl,fun w=>?_⟩
 have u3:=Try.underlying3
 have g3:=Try.isAgg3
 have z3:=Try.sizeOf3
 show(Op.equalIn (9999+1) 64 (.agg #[.int .i64 a0,.int .i64 a1]) (.agg #[.int .i64 b0,.int .i64 b1])).run Try.prog w=_
 rw [Op.equalIn]
 simp only [Sem.run_bind,run_underlying Try.underlying64,Result.andThen_ok]
 simp only [Std.Legacy.Range.forIn_eq_forIn_range',Std.Legacy.Range.size,Nat.sub_zero,Nat.add_sub_cancel,Nat.div_one,List.range'_succ,List.range'_zero,List.forIn_cons,List.forIn_nil]
 go_simp
 by_cases h0:a0=b0<;>by_cases h1:a1=b1<;>simp [h0,h1]
def QlL : Go.Shelf.Ren:=⟨fun | 22=>39 | 29=>80 | 30=>81 | n=>n,fun | 24=>22 | 9=>29 | n=>n,fun n=>n⟩
theorem Qll : QhY Try.prog QlL "slices.Insert[[]baldric/api.Item,baldric/api.Item]" "slices.overlaps[baldric/api.Item]" 29 11 136 (.agg #[.int .i64 0,.int .i64 0,.slice none 0 0,.slice none 0 0,.slice none 0 0,.int .i64 0,.int .i64 0,.int .i64 0,.int .i64 0,.int .i64 0,.int .i64 0]) where
 mixed:=by kernel_rfl
 f22:=Try.func39.trans (congrArg some (by kernel_rfl))
 f29:=Try.func80.trans (congrArg some (by kernel_rfl))
 nm:=by kernel_rfl
 nx:=by kernel_rfl
 fd:=by kernel_rfl
 t0:=Try.underlying0
 t3:=Try.underlying3
 t4:=Try.underlying4
 t24:=Try.underlying22
 zE:=Try.sizeOf29
 iE:=by kernel_rfl
 zc:=by kernel_rfl
 z0:=by decide
 small:=by decide
theorem QgD : Qiy Try.prog 129 .u64=true:=by kernel_rfl
theorem Qmg : Qiy Try.prog 3 .i64=true:=by kernel_rfl
theorem Qmh : Qiy Try.prog 5 .u8=true:=by kernel_rfl
theorem Qkp : Qdu Try.prog 3 (V.i .i64) (Value.int .i64):=Qdu.int (by kernel_rfl)
theorem Qlm : (QbD Try.prog 120 "Pop" = some (127,true)∧Qiv Try.prog 120=true)∨(QbD Try.prog 120 "Pop" = some (127,false)∧Qfs Try.prog 120=true):=.inl ⟨by kernel_rfl,by kernel_rfl⟩
theorem QkE : (QbD Try.prog 120 "Push" = some (128,true)∧Qiv Try.prog 120=true)∨(QbD Try.prog 120 "Push" = some (128,false)∧Qfs Try.prog 120=true):=.inl ⟨by kernel_rfl,by kernel_rfl⟩
theorem mixed : Try.prog.follows .mixedOrders=true:=by kernel_rfl
theorem Qkq : Qgl Try.prog 111=some (3,116):=by kernel_rfl
theorem Qms : Qgl Try.prog 74=some (3,4):=by kernel_rfl
theorem Qi1 : QbD Try.prog 120 "Len" = some (124,false)∧Qf1 Try.prog 120 113=true∧Qbg Try.prog 113=some false:=⟨by kernel_rfl,by kernel_rfl,by kernel_rfl⟩
theorem Qgp : QbD Try.prog 120 "Less" = some (125,false)∧Qf1 Try.prog 120 113=true∧Qbg Try.prog 113=some false:=⟨by kernel_rfl,by kernel_rfl,by kernel_rfl⟩
theorem Qgq : QbD Try.prog 120 "Swap" = some (126,false)∧Qf1 Try.prog 120 113=true∧Qbg Try.prog 113=some false:=⟨by kernel_rfl,by kernel_rfl,by kernel_rfl⟩
theorem Qnf : Try.prog.underlying 23=some (.slice 3):=by kernel_rfl
theorem QmV : Try.prog.underlying 116=some (.pointer 118):=by kernel_rfl
theorem QmW : Qd2 Try.prog 116 (.lit (.pointer none)):=Qd2.one (v:=.pointer none) (by kernel_rfl)
theorem Qnx : Qd2 Try.prog 4 (V.b false):=Qd2.one (v:=.bool false) (by kernel_rfl)
theorem Qny : Qaa Try.prog 3=some [.i .i64 0]:=by kernel_rfl
theorem Qnz : Qaa Try.prog 5=some [.i .u8 0]:=by kernel_rfl
theorem Qng : Qaa Try.prog 25=some [.i .i64 0,.lit (.slice none 0 0),.lit (.slice none 0 0),.lit (.slice none 0 0)]:=by kernel_rfl
theorem Qnh : Qaa Try.prog 27=some [.i .i64 0,.i .i64 0,.i .i64 0,.i .i64 0,.i .i64 0]:=by kernel_rfl
theorem Qni : Qaa Try.prog 29=some [.i .i64 0,.i .i64 0,.lit (.slice none 0 0),.lit (.slice none 0 0),.lit (.slice none 0 0),.i .i64 0,.i .i64 0,.i .i64 0,.i .i64 0,.i .i64 0,.i .i64 0]:=by kernel_rfl
theorem Qnj : Qaa Try.prog 43=some [.lit (.slice none 0 0),.lit (.slice none 0 0),.i .i64 0,.i .i64 0]:=by kernel_rfl
theorem Qnk : Qaa Try.prog 45=some [.i .i64 0,.i .i64 0,.i .i64 0,.lit (.slice none 0 0),.lit (.slice none 0 0),.lit (.slice none 0 0),.i .i64 0]:=by kernel_rfl
theorem Qnl : Qaa Try.prog 64=some [.i .i64 0,.i .i64 0]:=by kernel_rfl
theorem Qnm : Qaa Try.prog 66=some [.lit (.slice none 0 0)]:=by kernel_rfl
theorem Qnn : Qaa Try.prog 93=some [.lit (.slice none 0 0),.b false]:=by kernel_rfl
theorem Qhr : Qaa Try.prog 95=some [.lit (.pointer none)]:=by kernel_rfl
theorem QmX : Qaa Try.prog 103=some [.lit (.slice none 0 0),.i .i64 0,.b false]:=by kernel_rfl
theorem QmY : Qaa Try.prog 115=some [.lit (.slice none 0 0),.lit (.map none)]:=by kernel_rfl
theorem QmZ : Qaa Try.prog 116=some [.lit (.pointer none)]:=by kernel_rfl
theorem Qm0 : Qaa Try.prog 118=some [.i .i64 0,.i .i64 0,.i .i64 0]:=by kernel_rfl
theorem QlM : Qaa Try.prog 140=some [.lit (.pointer none)]:=by kernel_rfl
def tab : Tab:={ ag:=[(3,false),(4,false),(5,false),(22,false),(23,false),(25,true),(27,true),(29,true),(41,false),(43,true),(45,true),(47,false),(64,true),(66,false),(95,false),(111,false),(113,false),(116,false),(140,false)],sz:=[(3,1),(4,1),(22,1),(23,1),(25,4),(27,5),(29,11),(41,1),(43,4),(45,7),(47,1),(64,2),(113,1),(116,1)],fo:=[(25,[0,1,2,3]),(27,[0,1,2,3,4]),(29,[0,1,5,10]),(43,[0,1,2,3]),(45,[0,1,2,6]),(93,[0,1]),(103,[0,1,2]),(115,[0,1]),(118,[0,1,2])],sp:=[(25,[(0,1),(1,1),(2,1),(3,1)]),(27,[(0,1),(1,1),(2,1),(3,1),(4,1)]),(29,[(0,1),(1,4),(5,5),(10,1)]),(43,[(0,1),(1,1),(2,1),(3,1)]),(45,[(0,1),(1,1),(2,4),(6,1)]),(93,[(0,1),(1,1)]),(103,[(0,1),(1,1),(2,1)]),(115,[(0,1),(1,1)]),(118,[(0,1),(1,1),(2,1)])],es:=[(22,(29,11,136)),(23,(3,1,8)),(40,(66,1,24)),(41,(66,1,24)),(47,(5,1,1)),(65,(64,2,16)),(66,(64,2,16)),(113,(116,1,8)),(135,(95,1,8)),(141,(140,1,8))],ar:=[(64,(2,1))],zv:=[(3,[.i .i64 0]),(5,[.i .u8 0]),(25,[.i .i64 0,.lit (.slice none 0 0),.lit (.slice none 0 0),.lit (.slice none 0 0)]),(27,[.i .i64 0,.i .i64 0,.i .i64 0,.i .i64 0,.i .i64 0]),(29,[.i .i64 0,.i .i64 0,.lit (.slice none 0 0),.lit (.slice none 0 0),.lit (.slice none 0 0),.i .i64 0,.i .i64 0,.i .i64 0,.i .i64 0,.i .i64 0,.i .i64 0]),(43,[.lit (.slice none 0 0),.lit (.slice none 0 0),.i .i64 0,.i .i64 0]),(45,[.i .i64 0,.i .i64 0,.i .i64 0,.lit (.slice none 0 0),.lit (.slice none 0 0),.lit (.slice none 0 0),.i .i64 0]),(64,[.i .i64 0,.i .i64 0]),(66,[.lit (.slice none 0 0)]),(93,[.lit (.slice none 0 0),.b false]),(95,[.lit (.pointer none)]),(103,[.lit (.slice none 0 0),.i .i64 0,.b false]),(115,[.lit (.slice none 0 0),.lit (.map none)]),(116,[.lit (.pointer none)]),(118,[.i .i64 0,.i .i64 0,.i .i64 0]),(140,[.lit (.pointer none)])],sb:=[9],bo:=[4],cc:=[116,120],en:=[9,10,11,12,13,16,18,19,21,23,24,25,26,27,28,29,30,31,32,33,34,35,36,37,38,39,40,41,43,44,45,46,50,51,54,55,56,57,58,59,60,61,62,63,64,65,66,67,68,69,70,71,72,73,74,75,76,77,78,79,82,84,85,86,87,89,90,91,92,93,94,95,96,97,98,99,100,101,102,104,105,124,125,126,127,128] }
theorem Qm : QaM Try.prog tab:=Tab.ok (by kernel_rfl) (QbX.2 ⟨Qny,QbX.2 ⟨Qnz,QbX.2 ⟨Qng,QbX.2 ⟨Qnh,QbX.2 ⟨Qni,QbX.2 ⟨Qnj,QbX.2 ⟨Qnk,QbX.2 ⟨Qnl,QbX.2 ⟨Qnm,QbX.2 ⟨Qnn,QbX.2 ⟨Qhr,QbX.2 ⟨QmX,QbX.2 ⟨QmY,QbX.2 ⟨QmZ,QbX.2 ⟨Qm0,QbX.2 ⟨QlM,fun _ h=>(by cases h)⟩⟩⟩⟩⟩⟩⟩⟩⟩⟩⟩⟩⟩⟩⟩⟩)
theorem Qa {C:Ctx}{Q:Exit→St→Prop}{n:Nat}{pt pt1:Pt}{ks ks1:List Fr}{σ σ1:St}{φ:Prop}(hC:Qb1 Try.prog C n)(ds:List Dir)(e:Vm.go Try.prog C tab n ds pt ks σ True=some ⟨pt1,ks1,σ1,φ⟩)(hφ:φ)(h:AK Try.prog C Q pt1 ks1 σ1):AK Try.prog C Q pt ks σ:=AK.go Qm hC ds e hφ h
abbrev QBg := List (Int×Int)
abbrev QMk := List QBg
abbrev QLL := List (List Int)
abbrev QSB := List (ByteArray×Bool)
theorem tt_ : True:=trivial
theorem an_ {a b:Prop}(x:a)(y:b):a∧b:=⟨x,y⟩
theorem ex_ {α:Sort _}{p:α→Prop}(w:α)(h:p w):∃x,p x:=⟨w,h⟩
end Go.Proofs
namespace Go.Vm
open Go Go.RowKit
noncomputable abbrev Dir.K (a b:List Nat):Dir:=.keep a b
noncomputable abbrev Dir.S (a:Nat)(b:V):Dir:=.say a b
noncomputable abbrev Dir.O (a:Nat)(b:Ob):Dir:=.sayO a b
noncomputable abbrev Dir.T:Dir:=.br true
noncomputable abbrev Dir.F:Dir:=.br false
noncomputable abbrev Dw.N:Dw:=.a .no none false
noncomputable abbrev V.I (n:Int):V:=.i .i64 n
end Go.Vm
namespace Go.Proofs
open Go Go.RowKit Go.Vm Go.Proofs.Try
theorem bg_ {α:Type}{c:Bool}{x y:Option α}{r:α}{G:Prop}(h:(bif c then x else y)=some r)(f:c=true→x=some r→G)(g:c=false→y=some r→G):G:=by
 cases c
 ·exact g rfl h
 exact f rfl h
theorem cb_ {a b:Bool}(h:a=b):V.b a=V.b b:=congrArg V.b h
theorem tc_ {a b:Bool}(h:a=b):True∧V.b a=V.b b:=⟨trivial,congrArg V.b h⟩
def Qm1 : Exit→Bool
 | .normal=>true
 | .ret=>true
 | _=>false
theorem d1_ {C:Ctx}{t:Nat}{r:V}{outs:List (Nat×Ob)}{σ:St}{e:Exit}(he:Qm1 e=true)(h:Go.Vm.look σ.fr t=some r)(hs:Qb0 σ.hp outs):AK Try.prog C (QkT Try.prog [.tmp t] (Qp r outs)) (.x e) [] σ:=by
 cases e<;>first | exact AK.done ⟨[r],⟨h,trivial⟩,Qau hs⟩|cases he
theorem d2_ {C:Ctx}{t u:Nat}{r s:V}{outs:List (Nat×Ob)}{σ:St}{e:Exit}(he:Qm1 e=true)(h:Go.Vm.look σ.fr t=some r)(k:Go.Vm.look σ.fr u=some s)(hs:Qb0 σ.hp outs):AK Try.prog C (QkT Try.prog [.tmp t,.tmp u] (Qp (.tup [r,s]) outs)) (.x e) [] σ:=by
 cases e<;>first | exact AK.done ⟨[r,s],⟨h,k,trivial⟩,Qau hs⟩|cases he
theorem tg_ {C:Ctx}{Q:Exit→St→Prop}{n:Nat}{pt pt1:Pt}{ks ks1:List Fr}{σ σ1:St}(hC:Qb1 Try.prog C n)(ds:List Dir)(e:Vm.go Try.prog C tab n ds pt ks σ True=some ⟨pt1,ks1,σ1,True⟩)(h:AK Try.prog C Q pt1 ks1 σ1):AK Try.prog C Q pt ks σ:=AK.go Qm hC ds e trivial h
theorem QbU {c:Bool}{β:Type}{f:Unit→Option β}{r:β}(h:(chk c).bind f=some r):c=true∧f ()=some r:=by
 obtain⟨_,k,h⟩:=Qe h
 exact⟨QmL k,h⟩
def Qd5 (b:Int)(a:Int):Option Qi:=
 some (Qi.mk b (Qat.mk 0 ([]:(List Int)) ([0]:List Int) ([0]:List Int)) (Q3.mk 2 1 1 0 0) a)
theorem Qd6 (b a){r}(h:Qd5 b a=some r):Qh prog 36 [.I b,.I a] [] (Qp (.agg (Qc r)) []):=by
 refine Qh.walk 12 func36 rfl rfl rfl fun C hC=>?_
 refine Qa hC [.n 9,.v .no [] (.agg (Qaf (Q3.mk 2 1 1 0 0))),.v (.bd []) [] (.sl 1 (([0]:List Int).map Qo)),.v (.bd []) [] (.sl 1 (([0]:List Int).map Qo)),.v .no [none,some 1,none,none] (.agg (Qar (Qat.mk 0 ([]:(List Int)) ([0]:List Int) ([0]:List Int)))),.v .no [] (.agg (Qc (Qi.mk b (Qat.mk 0 ([]:(List Int)) ([0]:List Int) ([0]:List Int)) (Q3.mk 2 1 1 0 0) a))),.n 1,.O 4 (.var (Qc (Qi.mk b (Qat.mk 0 ([]:(List Int)) ([0]:List Int) ([0]:List Int)) (Q3.mk 2 1 1 0 0) a))),.n 3,.K [4] [4]] rfl ⟨⟨⟨⟨⟨⟨tt_,rfl⟩,rfl⟩,rfl⟩,rfl⟩,rfl⟩,rfl⟩ ?_
 cases h
 exact AK.done (ex_ [_] (an_ (an_ (ex_ _ (ex_ _ (an_ rfl (an_ rfl (Or.inl (an_ (Qm.ag rfl) (an_ (Qm.sz rfl) rfl))))))) tt_) (Qau tt_)))
def Q8 (a:(List Int)):Option (List Int):=
 (chk (decide (([]:List Int).length+a.length≤4294967296))).bind fun _=>
 some (([]:List Int)++a)
theorem Qbm (a){r}(h:Q8 a=some r):Qh prog 82 [.sl 1 (a.map Qo)] [] (Qp (.own 600 r.length) [(600,.arr 1 (r.map Qo))]):=by
 refine Qh.walk 8 func82 rfl rfl rfl fun C hC=>?_
 unfold Q8 at h
 refine tg_ hC [.n 9] rfl ?_
 refine AK.eqNil rfl rfl rfl (Qw hC.n rfl) rfl rfl Qnf ?_ ?_
 ·intro b
  replace h:some ([]:List Int)=some r:=by simpa [chk,List.map_eq_nil_iff.1 b] using h
  refine Qa hC [.n 10,.adopt 2 600 1,.O 600 (.arr 1 (([]:List Int).map Qo)),.S 2 (.own 600 ([]:List Int).length)] rfl ⟨⟨tt_,rfl⟩,rfl⟩ ?_
  cases h
  exact d1_ rfl rfl ⟨rfl,tt_⟩
 obtain⟨c,h⟩:=QbU h
 refine Qa hC [.n 8,.O 5 (.arr 1 (([]:List Int).map Qo)),.S 5 (.own 5 ([]:List Int).length),.n 1,.app ((([]:List Int)++a).map Qo) (([]:List Int)++a).length,.n 4,.K [2] [5],.ren 5 600] rfl ⟨⟨⟨tt_,rfl⟩,rfl⟩,⟨Qk,Qdb c Qk,Qb2,QeD Qk⟩⟩ ?_
 cases h
 exact d1_ rfl rfl ⟨rfl,tt_⟩
def Qb5 (a:Qi):Option Qi:=
 (Q8 a.Mode.Vars).bind fun b=>
 (Q8 a.Mode.Ins).bind fun c=>
 (Q8 a.Mode.Outs).bind fun d=>
 some (Qi.mk a.Id (Qat.mk a.Mode.Task b c d) a.Batch a.Until)
theorem QeW (b){r}(h:Qb5 b=some r):Qh prog 40 [.agg (Qc b)] [] (Qp (.agg (Qc r)) []):=by
 refine Qh.walk 22 func40 rfl rfl rfl fun C hC=>?_
 obtain⟨c,g,h⟩:=Qe h
 obtain⟨e,i,h⟩:=Qe h
 obtain⟨f,j,h⟩:=Qe h
 refine tg_ hC [.n 7,.K [1,2] [1,2]] rfl ?_
 refine AK.draw2 Qm hC mixed [.N,.N,.N,.a (.cd false [.d] 1 (c.map Qo) c.length) none false,.N,.N,.N,.a (.cd false [.d] 1 (e.map Qo) e.length) none false,.N,.N,.N,.a (.cd false [.d] 1 (f.map Qo) f.length) none false,.N,.N,.m .s,.N,.N,.m .s,.N,.N,.m .s] [] [] [1,2] [1,2] rfl rfl rfl ⟨⟨⟨tt_,⟨(Qbm _ g),Qk⟩⟩,⟨(Qbm _ i),Qk⟩⟩,⟨(Qbm _ j),Qk⟩⟩ rfl (by kernel_rfl) rfl rfl rfl ?_
 refine Qa hC [.O 1 (.var (Qc (Qi.mk b.Id (Qat.mk b.Mode.Task c e f) b.Batch b.Until))),.n 3,.v .no [] (.agg (Qc (Qi.mk b.Id (Qat.mk b.Mode.Task c e f) b.Batch b.Until))),.n 1,.O 2 (.var (Qc (Qi.mk b.Id (Qat.mk b.Mode.Task c e f) b.Batch b.Until))),.n 3,.K [2] [2]] rfl ⟨⟨⟨tt_,rfl⟩,rfl⟩,rfl⟩ ?_
 cases h
 exact AK.done (ex_ [_] (an_ (an_ (ex_ _ (ex_ _ (an_ rfl (an_ rfl (Or.inl (an_ (Qm.ag rfl) (an_ (Qm.sz rfl) rfl))))))) tt_) (Qau tt_)))
def Qd7 (b:Int)(a:(List Qi)):Option ((Int×(List Qi))⊕(List Qi)):=
 some (.inl ((w64 (b+1)),a))
def QaO (f:(List Qi))(e:Int)(c:Int)(d:(List Qi)):Option ((Int×(List Qi))⊕(List Qi)):=
 bif (decide (c<(f.length:Int)))then
 (idx f c).bind fun a=>
 bif (a.Id != e)then
 (Qb5 a).bind fun b=>
 (chk (decide (d.length+([b]:List Qi).length≤4294967296))).bind fun _=>
 Qd7 c (d++([b]:List Qi))
 else
 Qd7 c d
 else
 some (.inr d)
def Qf2 (a:(List Qi)):Option (List Qi):=
 some a
def QaP (b:(List Qi))(a:Int):Option (List Qi):=
 (Q1 (fun st=>QaO b a st.1 st.2) (0,([]:List Qi))).bind (fun q=>Qf2 q)
theorem Qbe (k a){r}(h:QaP k a=some r):Qh prog 12 [.sl 11 (k.map Qc),.I a] [] (Qp (.own 600 r.length) [(600,.arr 11 (r.map Qc))]):=by
 refine Qh.walk 25 func12 rfl rfl rfl fun C hC=>?_
 refine Qa hC [.n 14,.o (.ln k.length),.n 4,.adopt 5 18 11,.O 18 (.arr 11 (([]:List Qi).map Qc)),.S 5 (.own 18 ([]:List Qi).length),.K [1,5,8,9,10] [18]] rfl ⟨⟨⟨tt_,Qk⟩,rfl⟩,(congrArg (fun n=>V.own 18 n) (by simp))⟩ ?_
 obtain⟨w,l,h⟩:=Qe h
 refine AK.loop (body:=(fun st=>QaO k a st.1 st.2)) (fun st σ=>σ=⟨[(1,.I a),(5,.own 18 st.2.length),(8,.sl 11 (k.map Qc)),(9,.I (k.length:Int)),(10,.I st.1)],[(18,.arr 11 (st.2.map Qc))]⟩) (fun q e σ=>e=.exit 0∧σ=⟨[(5,.own 18 q.length)],[(18,.arr 11 (q.map Qc))]⟩) l rfl ?_ ?_
 ·rintro ⟨t,u⟩ o σ rfl h
  refine tg_ hC [.n 6] rfl ?_
  refine bg_ h (fun b h=>Qa hC [.T,.n 2] rfl ⟨tt_,b⟩ ?_) fun b h=>Qa hC [.F,.n 2,.K [5] [18]] rfl ⟨tt_,b⟩ ?_
  ·refine AK.meet (fun σ=>∃g:(List Qi),σ=⟨[(1,.I a),(5,.own 18 g.length),(8,.sl 11 (k.map Qc)),(9,.I (k.length:Int)),(10,.I t)],[(18,.arr 11 (g.map Qc))]⟩∧Qd7 t g=some o) ?_ ?_
   ·obtain⟨i,m,h⟩:=Qe h
    refine Qa hC [.n 3,.o (.row (Qc i)),.v .no [] (.agg (Qc i)),.n 2,.O 7 (.var (Qc i)),.n 10] rfl ⟨⟨⟨tt_,(Qa5 m)⟩,rfl⟩,rfl⟩ ?_
    rcases QO h with⟨f,h⟩|⟨f,h⟩
    ·obtain⟨j,p,h⟩:=Qe h
     obtain⟨s,h⟩:=QbU h
     refine Qa hC [.T,.n 2,.v .no [] (.agg (Qc i)),.o (.c false [.d] (.agg (Qc j))),.v (.bd []) [] (.sl 11 (([j]:List Qi).map Qc)),.app ((u++([j]:List Qi)).map Qc) (u++([j]:List Qi)).length,.n 3,.K [1,5,8,9,10] [18]] rfl ⟨⟨⟨⟨⟨tt_,f⟩,rfl⟩,(QeW _ p)⟩,rfl⟩,⟨Qk,Qdb s Qk,Qb2,QeD Qk⟩⟩ ?_
     exact AK.met (ex_ _ (an_ rfl h))
    refine Qa hC [.F,.n 2,.K [1,5,8,9,10] [18]] rfl ⟨tt_,f⟩ ?_
    exact AK.met (ex_ _ (an_ rfl h))
   rintro σ ⟨g,rfl,h⟩
   refine tg_ hC [.n 4,.K [1,5,8,9,10] [18]] rfl ?_
   cases h
   exact QaU rfl rfl
  cases h
  exact QaN rfl (an_ rfl rfl)
 replace h:Qf2 w=some r:=h
 rintro e σ ⟨rfl,rfl⟩
 refine tg_ hC [.n 9,.K [4] [18],.ren 18 600] rfl ?_
 cases h
 exact d1_ rfl rfl ⟨rfl,tt_⟩
def QeU (a:Qi)(b:Qi):Option Bool:=
 some (decide (b.Id<a.Id))
theorem Qiz (c a){r}(h:QeU c a=some r):Qh prog 38 [.agg (Qc c),.loc 607 0 0] [(607,.var (Qc a))] (Qp (.b r) [(607,.var (Qc a))]):=by
 refine Qh.walk 9 func38 rfl rfl rfl fun C hC=>?_
 refine tg_ hC [.n 17] rfl ?_
 cases h
 exact d1_ rfl rfl ⟨rfl,tt_⟩
def QB (c:(List Qi))(d:Qi)(a:Int):Option (Int⊕(Int⊕Unit)):=
 bif (decide (a<(c.length:Int)))then
 (idx c a).bind fun e=>
 (QeU e d).bind fun b=>
 bif b then
 some (.inr (.inl a))
 else
 some (.inl (w64 (a+1)))
 else
 some (.inr (.inr ()))
def QaR (a:Int):Option Int:=
 some a
def QaS : Option Int:=
 some (-1)
def Q7 (a:(List Qi))(b:Qi):Option Int:=
 (Q1 (fun st=>QB a b st) 0).bind (Sum.elim (fun q=>QaR q) (fun q=>QaS))
theorem Qcu (c f){r}(h:Q7 c f=some r):Qh prog 37 [.own 607 c.length,.clo (.func 38) [] [.loc 608 0 0]] [(607,.arr 11 (c.map Qc)),(608,.var (Qc f))] (Qp (.I r) [(607,.arr 11 (c.map Qc)),(608,.var (Qc f))]):=by
 refine Qh.walk 19 func37 rfl rfl rfl fun C hC=>?_
 refine tg_ hC [.n 14,.K [0,1,7,8] [607,608]] rfl ?_
 obtain⟨l,i,h⟩:=Qe h
 refine AK.loop (body:=(fun st=>QB c f st)) (fun st σ=>σ=⟨[(0,.own 607 c.length),(1,.clo (.func 38) [] [.loc 608 0 0]),(7,.I (c.length:Int)),(8,.I st)],[(607,.arr 11 (c.map Qc)),(608,.var (Qc f))]⟩) (Sum.elim (fun q e σ=>e=.ret∧σ=⟨[(4,.I q)],[(607,.arr 11 (c.map Qc)),(608,.var (Qc f))]⟩) (fun q e σ=>e=.exit 0∧σ=⟨[],[(607,.arr 11 (c.map Qc)),(608,.var (Qc f))]⟩)) i rfl ?_ ?_
 ·rintro t o σ rfl h
  refine tg_ hC [.n 6] rfl ?_
  rcases QO h with⟨g,h⟩|⟨g,h⟩
  ·obtain⟨p,j,h⟩:=Qe h
   obtain⟨m,k,h⟩:=Qe h
   refine Qa hC [.T,.n 16,.v (.row (Qc p)) [] (.agg (Qc p)),.cm (.clo) [(607,608)] [(608,607)] [] [.d,.d] [(607,.var (Qc f))] (.b m),.n 2] rfl ⟨⟨⟨⟨⟨tt_,g⟩,(QaZ j rfl)⟩,(QK (Qba j).2)⟩,rfl⟩,(Qiz _ _ k)⟩ ?_
   refine bg_ h (fun a h=>Qa hC [.T,.n 9,.K [4] [607,608]] rfl ⟨tt_,a⟩ ?_) fun a h=>Qa hC [.F,.n 7,.K [0,1,7,8] [607,608]] rfl ⟨tt_,a⟩ ?_
   ·cases h
    exact Qhg rfl (an_ rfl rfl)
   cases h
   exact QaU rfl rfl
  refine Qa hC [.F,.n 2,.K [] [607,608]] rfl ⟨tt_,g⟩ ?_
  cases h
  exact QaN rfl (an_ rfl rfl)
 rcases l with(s | _)
 ·replace h:QaR s=some r:=h
  rintro e σ ⟨rfl,rfl⟩
  refine tg_ hC [.n 2] rfl ?_
  cases h
  exact d1_ rfl rfl ⟨rfl,rfl,tt_⟩
 replace h:QaS=some r:=h
 rintro e σ ⟨rfl,rfl⟩
 refine tg_ hC [.n 8] rfl ?_
 cases h
 exact d1_ rfl rfl ⟨rfl,rfl,tt_⟩
def QQ (l:(List Qi))(i:Int)(m:(List Qi)):Option (List Qi):=match m with
 | [u]=>(chk (decide (0≤i)&&decide (i.toNat≤l.length)&&decide (l.length+1≤4294967296))).bind fun _=>some (l.take i.toNat++u::l.drop i.toNat)
 | _=>none
theorem QcN (l i m){r}(h:QQ l i m=some r):Qh prog 39 [.own 605 l.length,.I i,.own 606 m.length] [(605,.arr 11 (l.map Qc)),(606,.arr 11 (m.map Qc))] (Qp (.own 605 r.length) [(605,.arr 11 (r.map Qc))]):=by
 unfold QQ at h
 split at h
 ·rename_i u
  obtain⟨_,a,h⟩:=Qe h
  replace a:=QmL a
  simp only [Qs,QdZ]at a
  cases h
  have:=Qko Qll (l.map Qc) (Qc u) i a.1.1 (by rw [QfR];exact a.1.2) (by rw [QfR];exact a.2)
  rw [←List.map_take,←List.map_drop,←QbY,←List.map_append,QfR,QfR]at this
  exact this
 cases h
def Qc0 (a:Qi)(b:(List Qi))(at_6:Int):Option (List Qi):=
 (Qb5 a).bind fun c=>
 (QQ b at_6 ([c]:List Qi)).bind fun d=>
 some d
def QaL (d:(List Qi))(a:Qi):Option (List Qi):=
 (QaP d a.Id).bind fun b=>
 (Q7 b a).bind fun c=>
 bif (decide (c<0))then
 Qc0 a b (b.length:Int)
 else
 Qc0 a b c
theorem Qa6 (l b){r}(h:QaL l b=some r):Qh prog 11 [.sl 11 (l.map Qc),.agg (Qc b)] [] (Qp (.own 600 r.length) [(600,.arr 11 (r.map Qc))]):=by
 refine Qh.walk 24 func11 rfl rfl rfl fun C hC=>?_
 obtain⟨e,f,h⟩:=Qe h
 obtain⟨p,g,h⟩:=Qe h
 refine Qa hC [.n 11,.o (.co false [.d,.d] 11 (e.map Qc) e.length),.n 7,.cm (.fn) [(607,10),(608,3)] [(10,607),(3,608)] [] [.d,.d] [(607,.arr 11 (e.map Qc)),(608,.var (Qc b))] (.I p),.n 3] rfl ⟨⟨tt_,⟨(Qbe _ _ f),Qk,.inl rfl⟩⟩,(Qcu _ _ g)⟩ ?_
 refine AK.meet (fun σ=>∃at_6:Int,σ=⟨[(3,.loc 3 0 0),(5,.own 10 e.length),(6,.I at_6)],[(3,.var (Qc b)),(10,.arr 11 (e.map Qc))]⟩∧Qc0 b e at_6=some r) ?_ ?_
 ·refine tg_ hC [.n 6] rfl ?_
  refine bg_ h (fun a h=>Qa hC [.T,.n 5,.K [3,5,6] [3,10]] rfl ⟨tt_,a⟩ ?_) fun a h=>Qa hC [.F,.n 1,.K [3,5,6] [3,10]] rfl ⟨tt_,a⟩ ?_
  ·exact AK.met (ex_ _ (an_ rfl h))
  exact AK.met (ex_ _ (an_ rfl h))
 rintro σ ⟨at_6,rfl,h⟩
 obtain⟨i,j,h⟩:=Qe h
 obtain⟨m,k,h⟩:=Qe h
 refine Qa hC [.n 4,.v .no [] (.agg (Qc b)),.o (.c false [.d] (.agg (Qc i))),.n 1,.O 22 (.arr 11 (([i]:List Qi).map Qc)),.S 22 (.own 22 ([i]:List Qi).length),.cm (.fn) [(605,10),(606,22)] [(10,605)] [10,22] [.d,.d,.d] [(605,.arr 11 (m.map Qc))] (.own 605 m.length),.n 4,.K [4] [10],.ren 10 600] rfl ⟨⟨⟨⟨⟨tt_,rfl⟩,(QeW _ j)⟩,rfl⟩,rfl⟩,(QcN _ _ _ k)⟩ ?_
 cases h
 exact d1_ rfl rfl ⟨rfl,tt_⟩
def QgE (c:Int)(a:Int)(b:(List Int)):Option ((Int×(List Int))⊕(List Int)):=
 bif (decide (0≤a))then
 (chk (decide (0≤(w64 (8*a))))).bind fun _=>
 (chk (decide (b.length+([(IntKind.u8.wrap (Qc7 .u64 (IntKind.u64.wrap c) (w64 (8*a))))]:List Int).length≤4294967296))).bind fun _=>
 some (.inl ((w64 (a-1)),(b++([(IntKind.u8.wrap (Qc7 .u64 (IntKind.u64.wrap c) (w64 (8*a))))]:List Int))))
 else
 some (.inr b)
def QgF (b:Int)(a:(List Int)):Option ((Int×(List Int))⊕(List Int)):=
 some (.inl ((w64 (b+1)),a))
def QgG (c:(List Int))(a:Int)(d:(List Int)):Option ((Int×(List Int))⊕(List Int)):=
 bif (decide (a<(c.length:Int)))then
 (idx c a).bind fun b=>
 (Q1 (fun st=>QgE b st.1 st.2) (7,d)).bind (fun q=>QgF a q)
 else
 some (.inr d)
def QgH (a:(List Int)):Option (List Int):=
 some a
def Qgr (a:(List Int)):Option (List Int):=
 (Q1 (fun st=>QgG a st.1 st.2) (0,([]:List Int))).bind (fun q=>QgH q)
theorem QgI (d){r}(h:Qgr d=some r):Qh prog 56 [.lit (.slice none 0 0),.sl 1 (d.map Qo)] [] (Qp (.own 600 r.length) [(600,.arr 1 (r.map Qn))]):=by
 refine Qh.walk 29 func56 rfl rfl rfl fun C hC=>?_
 refine Qa hC [.n 9,.o (.ln d.length),.n 4,.adopt 0 18 1,.O 18 (.arr 1 (([]:List Int).map Qn)),.S 0 (.own 18 ([]:List Int).length),.K [0,8,9,10] [18]] rfl ⟨⟨⟨tt_,Qk⟩,rfl⟩,(congrArg (fun n=>V.own 18 n) (by simp))⟩ ?_
 obtain⟨x,j,h⟩:=Qe h
 refine AK.loop (body:=(fun st=>QgG d st.1 st.2)) (fun st σ=>σ=⟨[(0,.own 18 st.2.length),(8,.sl 1 (d.map Qo)),(9,.I (d.length:Int)),(10,.I st.1)],[(18,.arr 1 (st.2.map Qn))]⟩) (fun q e σ=>e=.exit 0∧σ=⟨[(0,.own 18 q.length)],[(18,.arr 1 (q.map Qn))]⟩) j rfl ?_ ?_
 ·rintro ⟨t,y⟩ o σ rfl h
  refine tg_ hC [.n 6] rfl ?_
  rcases QO h with⟨f,h⟩|⟨f,h⟩
  ·obtain⟨a,k,h⟩:=Qe h
   refine Qa hC [.T,.n 6,.o (.row (Qo a)),.n 10,.K [0,6,7,8,9,10] [18]] rfl ⟨⟨tt_,f⟩,(Qa5 k)⟩ ?_
   obtain⟨u,l,h⟩:=Qe h
   refine AK.loop (body:=(fun st=>QgE a st.1 st.2)) (fun st σ=>σ=⟨[(0,.own 18 st.2.length),(6,.I a),(7,.I st.1),(8,.sl 1 (d.map Qo)),(9,.I (d.length:Int)),(10,.I t)],[(18,.arr 1 (st.2.map Qn))]⟩) (fun q e σ=>e=.exit 2∧σ=⟨[(0,.own 18 q.length),(8,.sl 1 (d.map Qo)),(9,.I (d.length:Int)),(10,.I t)],[(18,.arr 1 (q.map Qn))]⟩) l rfl ?_ ?_
   ·rintro ⟨b,m⟩ o σ rfl h
    refine tg_ hC [.n 7] rfl ?_
    rcases QO h with⟨c,h⟩|⟨c,h⟩
    ·obtain⟨p,h⟩:=QbU h
     obtain⟨s,h⟩:=QbU h
     refine Qa hC [.T,.n 7,.o (.any (.i .u64 (IntKind.u64.wrap a)) none),.n 2,.o (.any (.i .u64 (Qc7 .u64 (IntKind.u64.wrap a) (w64 (8*b)))) none),.o (.any (.i .u8 (IntKind.u8.wrap (Qc7 .u64 (IntKind.u64.wrap a) (w64 (8*b))))) none),.v (.bd []) [] (.sl 1 (([(IntKind.u8.wrap (Qc7 .u64 (IntKind.u64.wrap a) (w64 (8*b))))]:List Int).map Qn)),.app ((m++([(IntKind.u8.wrap (Qc7 .u64 (IntKind.u64.wrap a) (w64 (8*b))))]:List Int)).map Qn) (m++([(IntKind.u8.wrap (Qc7 .u64 (IntKind.u64.wrap a) (w64 (8*b))))]:List Int)).length,.n 9,.K [0,6,7,8,9,10] [18]] rfl ⟨⟨⟨⟨⟨⟨tt_,c⟩,(fun σ g w _=>Stp.convI rfl rfl (Qw hC.n rfl) (g _ _ rfl) Qmg QgD)⟩,(fun σ g w _=>Stp.shr rfl rfl (Qw hC.n rfl) (g _ _ rfl) (g _ _ rfl) (Qbd p))⟩,(fun σ g w _=>Stp.convI rfl rfl (Qw hC.n rfl) (g _ _ rfl) QgD Qmh)⟩,rfl⟩,⟨Qk,Qdb s Qk,Qb2,QeD Qk⟩⟩ ?_
     cases h
     exact QaU rfl rfl
    refine Qa hC [.F,.n 2,.K [0,8,9,10] [18]] rfl ⟨tt_,c⟩ ?_
    cases h
    exact QaN rfl (an_ rfl rfl)
   replace h:QgF t u=some o:=h
   rintro e σ ⟨rfl,rfl⟩
   refine tg_ hC [.n 7,.K [0,8,9,10] [18]] rfl ?_
   cases h
   exact QaU rfl rfl
  refine Qa hC [.F,.n 2,.K [0] [18]] rfl ⟨tt_,f⟩ ?_
  cases h
  exact QaN rfl (an_ rfl rfl)
 replace h:QgH x=some r:=h
 rintro e σ ⟨rfl,rfl⟩
 refine tg_ hC [.n 9,.K [4] [18],.ren 18 600] rfl ?_
 cases h
 exact d1_ rfl rfl ⟨rfl,tt_⟩
def QeX (c:Int)(a:Int)(b:(List Int)):Option ((Int×(List Int))⊕(List Int)):=
 bif (decide (0≤a))then
 (chk (decide (0≤(w64 (8*a))))).bind fun _=>
 (chk (decide (b.length+([(IntKind.u8.wrap (Qc7 .u64 (IntKind.u64.wrap c) (w64 (8*a))))]:List Int).length≤4294967296))).bind fun _=>
 some (.inl ((w64 (a-1)),(b++([(IntKind.u8.wrap (Qc7 .u64 (IntKind.u64.wrap c) (w64 (8*a))))]:List Int))))
 else
 some (.inr b)
def QeY (b:Int)(a:(List Int)):Option ((Int×(List Int))⊕(List Int)):=
 some (.inl ((w64 (b+1)),a))
def QeZ (c:(List Int))(a:Int)(d:(List Int)):Option ((Int×(List Int))⊕(List Int)):=
 bif (decide (a<(c.length:Int)))then
 (idx c a).bind fun b=>
 (Q1 (fun st=>QeX b st.1 st.2) (7,d)).bind (fun q=>QeY a q)
 else
 some (.inr d)
def Qe0 (a:(List Int)):Option (List Int):=
 some a
def Qag (a:(List Int))(b:(List Int)):Option (List Int):=
 (Q1 (fun st=>QeZ b st.1 st.2) (0,a)).bind (fun q=>Qe0 q)
theorem Q5 (t f){r}(h:Qag t f=some r):Qh prog 56 [.own 605 t.length,.sl 1 (f.map Qo)] [(605,.arr 1 (t.map Qn))] (Qp (.own 605 r.length) [(605,.arr 1 (r.map Qn))]):=by
 refine Qh.walk 29 func56 rfl rfl rfl fun C hC=>?_
 refine Qa hC [.n 9,.o (.ln f.length),.n 4,.K [0,8,9,10] [605]] rfl ⟨tt_,Qk⟩ ?_
 obtain⟨y,j,h⟩:=Qe h
 refine AK.loop (body:=(fun st=>QeZ f st.1 st.2)) (fun st σ=>σ=⟨[(0,.own 605 st.2.length),(8,.sl 1 (f.map Qo)),(9,.I (f.length:Int)),(10,.I st.1)],[(605,.arr 1 (st.2.map Qn))]⟩) (fun q e σ=>e=.exit 0∧σ=⟨[(0,.own 605 q.length)],[(605,.arr 1 (q.map Qn))]⟩) j rfl ?_ ?_
 ·rintro ⟨u,z⟩ o σ rfl h
  refine tg_ hC [.n 6] rfl ?_
  rcases QO h with⟨b,h⟩|⟨b,h⟩
  ·obtain⟨a,k,h⟩:=Qe h
   refine Qa hC [.T,.n 6,.o (.row (Qo a)),.n 10,.K [0,6,7,8,9,10] [605]] rfl ⟨⟨tt_,b⟩,(Qa5 k)⟩ ?_
   obtain⟨w,l,h⟩:=Qe h
   refine AK.loop (body:=(fun st=>QeX a st.1 st.2)) (fun st σ=>σ=⟨[(0,.own 605 st.2.length),(6,.I a),(7,.I st.1),(8,.sl 1 (f.map Qo)),(9,.I (f.length:Int)),(10,.I u)],[(605,.arr 1 (st.2.map Qn))]⟩) (fun q e σ=>e=.exit 2∧σ=⟨[(0,.own 605 q.length),(8,.sl 1 (f.map Qo)),(9,.I (f.length:Int)),(10,.I u)],[(605,.arr 1 (q.map Qn))]⟩) l rfl ?_ ?_
   ·rintro ⟨c,m⟩ o σ rfl h
    refine tg_ hC [.n 7] rfl ?_
    rcases QO h with⟨d,h⟩|⟨d,h⟩
    ·obtain⟨p,h⟩:=QbU h
     obtain⟨s,h⟩:=QbU h
     refine Qa hC [.T,.n 7,.o (.any (.i .u64 (IntKind.u64.wrap a)) none),.n 2,.o (.any (.i .u64 (Qc7 .u64 (IntKind.u64.wrap a) (w64 (8*c)))) none),.o (.any (.i .u8 (IntKind.u8.wrap (Qc7 .u64 (IntKind.u64.wrap a) (w64 (8*c))))) none),.v (.bd []) [] (.sl 1 (([(IntKind.u8.wrap (Qc7 .u64 (IntKind.u64.wrap a) (w64 (8*c))))]:List Int).map Qn)),.app ((m++([(IntKind.u8.wrap (Qc7 .u64 (IntKind.u64.wrap a) (w64 (8*c))))]:List Int)).map Qn) (m++([(IntKind.u8.wrap (Qc7 .u64 (IntKind.u64.wrap a) (w64 (8*c))))]:List Int)).length,.n 9,.K [0,6,7,8,9,10] [605]] rfl ⟨⟨⟨⟨⟨⟨tt_,d⟩,(fun σ g x _=>Stp.convI rfl rfl (Qw hC.n rfl) (g _ _ rfl) Qmg QgD)⟩,(fun σ g x _=>Stp.shr rfl rfl (Qw hC.n rfl) (g _ _ rfl) (g _ _ rfl) (Qbd p))⟩,(fun σ g x _=>Stp.convI rfl rfl (Qw hC.n rfl) (g _ _ rfl) QgD Qmh)⟩,rfl⟩,⟨Qk,Qdb s Qk,Qb2,QeD Qk⟩⟩ ?_
     cases h
     exact QaU rfl rfl
    refine Qa hC [.F,.n 2,.K [0,8,9,10] [605]] rfl ⟨tt_,d⟩ ?_
    cases h
    exact QaN rfl (an_ rfl rfl)
   replace h:QeY u w=some o:=h
   rintro e σ ⟨rfl,rfl⟩
   refine tg_ hC [.n 7,.K [0,8,9,10] [605]] rfl ?_
   cases h
   exact QaU rfl rfl
  refine Qa hC [.F,.n 2,.K [0] [605]] rfl ⟨tt_,b⟩ ?_
  cases h
  exact QaN rfl (an_ rfl rfl)
 replace h:Qe0 y=some r:=h
 rintro e σ ⟨rfl,rfl⟩
 refine tg_ hC [.n 9] rfl ?_
 cases h
 exact d1_ rfl rfl ⟨rfl,tt_⟩
def Qin (a:(List Int))(b:Int):Option (List Int):=
 (Qag a ([b]:List Int)).bind fun c=>
 some c
theorem Qjm (a b){r}(h:Qin a b=some r):Qh prog 95 [.own 605 a.length,.I b] [(605,.arr 1 (a.map Qn))] (Qp (.own 605 r.length) [(605,.arr 1 (r.map Qn))]):=by
 refine Qh.walk 9 func95 rfl rfl rfl fun C hC=>?_
 obtain⟨e,c,h⟩:=Qe h
 refine Qa hC [.n 9,.v (.bd []) [] (.sl 1 (([b]:List Int).map Qo)),.cm (.fn) [(605,605)] [(605,605)] [605] [.d,.d] [(605,.arr 1 (e.map Qn))] (.own 605 e.length),.n 4] rfl ⟨⟨tt_,rfl⟩,(Q5 _ _ c)⟩ ?_
 cases h
 exact d1_ rfl rfl ⟨rfl,tt_⟩
def QeK (d:(List Int))(a:Int)(e:(List Int)):Option ((Int×(List Int))⊕(List Int)):=
 bif (decide (a<(d.length:Int)))then
 (idx d a).bind fun b=>
 (Qin e b).bind fun c=>
 some (.inl ((w64 (a+1)),c))
 else
 some (.inr e)
def QeL (a:(List Int)):Option (List Int):=
 some a
def QcF (b:(List Int))(a:(List Int)):Option (List Int):=
 (Qag b ([(a.length:Int)]:List Int)).bind fun c=>
 (Q1 (fun st=>QeK a st.1 st.2) (0,c)).bind (fun q=>QeL q)
theorem QcO (j b){r}(h:QcF j b=some r):Qh prog 94 [.own 605 j.length,.sl 1 (b.map Qo),.clo (.func 95) [] []] [(605,.arr 1 (j.map Qn))] (Qp (.own 605 r.length) [(605,.arr 1 (r.map Qn))]):=by
 refine Qh.walk 26 func94 rfl rfl rfl fun C hC=>?_
 obtain⟨p,k,h⟩:=Qe h
 refine Qa hC [.n 9,.o (.ln b.length),.v (.bd []) [] (.sl 1 (([(b.length:Int)]:List Int).map Qo)),.cm (.fn) [(605,605)] [(605,605)] [605] [.d,.d] [(605,.arr 1 (p.map Qn))] (.own 605 p.length),.n 7,.o (.ln b.length),.n 4,.K [0,2,14,15,16] [605]] rfl ⟨⟨⟨⟨tt_,Qk⟩,rfl⟩,(Q5 _ _ k)⟩,Qk⟩ ?_
 obtain⟨l,c,h⟩:=Qe h
 refine AK.loop (body:=(fun st=>QeK b st.1 st.2)) (fun st σ=>σ=⟨[(0,.own 605 st.2.length),(2,.clo (.func 95) [] []),(14,.sl 1 (b.map Qo)),(15,.I (b.length:Int)),(16,.I st.1)],[(605,.arr 1 (st.2.map Qn))]⟩) (fun q e σ=>e=.exit 0∧σ=⟨[(0,.own 605 q.length)],[(605,.arr 1 (q.map Qn))]⟩) c rfl ?_ ?_
 ·rintro ⟨s,t⟩ o σ rfl h
  refine tg_ hC [.n 6] rfl ?_
  rcases QO h with⟨a,h⟩|⟨a,h⟩
  ·obtain⟨m,f,h⟩:=Qe h
   obtain⟨g,i,h⟩:=Qe h
   refine Qa hC [.T,.n 6,.o (.row (Qo m)),.n 8,.cm (.clo) [(605,605)] [(605,605)] [605] [.d,.d] [(605,.arr 1 (g.map Qn))] (.own 605 g.length),.n 8,.K [0,2,14,15,16] [605]] rfl ⟨⟨⟨tt_,a⟩,(Qa5 f)⟩,(Qjm _ _ i)⟩ ?_
   cases h
   exact QaU rfl rfl
  refine Qa hC [.F,.n 2,.K [0] [605]] rfl ⟨tt_,a⟩ ?_
  cases h
  exact QaN rfl (an_ rfl rfl)
 replace h:QeL l=some r:=h
 rintro e σ ⟨rfl,rfl⟩
 refine tg_ hC [.n 9] rfl ?_
 cases h
 exact d1_ rfl rfl ⟨rfl,tt_⟩
def Qfz (b:(List Int))(a:Qat):Option (List Int):=
 (Qag b ([a.Task]:List Int)).bind fun c=>
 (QcF c a.Vars).bind fun d=>
 (QcF d a.Ins).bind fun e=>
 (QcF e a.Outs).bind fun f=>
 some f
theorem Qf3 (b c){r}(h:Qfz b c=some r):Qh prog 61 [.own 605 b.length,.agg (Qar c)] [(605,.arr 1 (b.map Qn))] (Qp (.own 605 r.length) [(605,.arr 1 (r.map Qn))]):=by
 refine Qh.walk 19 func61 rfl rfl rfl fun C hC=>?_
 obtain⟨j,e,h⟩:=Qe h
 obtain⟨k,f,h⟩:=Qe h
 obtain⟨l,g,h⟩:=Qe h
 obtain⟨o,i,h⟩:=Qe h
 refine tg_ hC [.n 7,.K [0,3,4] [3,605]] rfl ?_
 refine AK.draw2 Qm hC mixed [.N,.N,.N,.a (.bd []) (some ([],.sl 1 (([c.Task]:List Int).map Qo))) false,.m (.cm (.fn) [(605,605)] [(605,605)] [605] [.d,.d] [(605,.arr 1 (j.map Qn))] (.own 605 j.length) []),.a .no none true,.a .no none true,.m (.cm (.fn) [(605,605)] [(605,605)] [605] [.d,.d,.d] [(605,.arr 1 (k.map Qn))] (.own 605 k.length) []),.a .no none true,.a .no none true,.m (.cm (.fn) [(605,605)] [(605,605)] [605] [.d,.d,.d] [(605,.arr 1 (l.map Qn))] (.own 605 l.length) []),.a .no none true,.a .no none true,.m (.cm (.fn) [(605,605)] [(605,605)] [605] [.d,.d,.d] [(605,.arr 1 (o.map Qn))] (.own 605 o.length) []),.m .s] [3,4] [3] [4] [605] rfl rfl rfl ⟨⟨⟨⟨⟨tt_,rfl⟩,⟨tt_,(Q5 _ _ e)⟩⟩,⟨tt_,(QcO _ _ f)⟩⟩,⟨tt_,(QcO _ _ g)⟩⟩,⟨tt_,(QcO _ _ i)⟩⟩ rfl (by kernel_rfl) rfl rfl rfl ?_
 refine tg_ hC [.n 2] rfl ?_
 cases h
 exact d1_ rfl rfl ⟨rfl,tt_⟩
def QeM (a:Qa8):Option (List Int):=
 (Qgr ([a.Do,a.Id]:List Int)).bind fun b=>
 (Qfz b a.Mode).bind fun c=>
 (Qag c ([a.Num]:List Int)).bind fun d=>
 some d
theorem QgJ (b){r}(h:QeM b=some r):Qh prog 26 [.agg (QP b)] [] (Qp (.own 600 r.length) [(600,.arr 1 (r.map Qn))]):=by
 refine Qh.walk 16 func26 rfl rfl rfl fun C hC=>?_
 obtain⟨g,c,h⟩:=Qe h
 obtain⟨i,e,h⟩:=Qe h
 obtain⟨j,f,h⟩:=Qe h
 refine tg_ hC [.n 7,.K [1,2] [1]] rfl ?_
 refine AK.draw2 Qm hC mixed [.N,.N,.N,.N,.a (.bd []) (some ([],.sl 1 (([b.Do,b.Id]:List Int).map Qo))) false,.m (.cm (.fn) [] [(8,600)] [8] [.d,.d] [(600,.arr 1 (g.map Qn))] (.own 600 g.length) []),.a .no none true,.a .no (some ([],.agg (Qar b.Mode))) true,.m (.cm (.fn) [(605,8)] [(8,605)] [8] [.d,.d] [(605,.arr 1 (i.map Qn))] (.own 605 i.length) []),.a .no none true,.a .no none true,.a (.bd []) (some ([],.sl 1 (([b.Num]:List Int).map Qo))) true,.m (.cm (.fn) [(605,8)] [(8,605)] [8] [.d,.d] [(605,.arr 1 (j.map Qn))] (.own 605 j.length) []),.m .s] [1,2] [1] [2] [8] rfl rfl rfl ⟨⟨⟨⟨⟨⟨tt_,rfl⟩,⟨tt_,(QgI _ c)⟩⟩,rfl⟩,⟨tt_,(Qf3 _ _ e)⟩⟩,rfl⟩,⟨tt_,(Q5 _ _ f)⟩⟩ rfl (by kernel_rfl) rfl rfl rfl ?_
 refine tg_ hC [.n 2,.K [2] [8],.ren 8 600] rfl ?_
 cases h
 exact d1_ rfl rfl ⟨rfl,tt_⟩
def QgK (a:Qd):Option Qd:=
 bif a.bad then
 some (Qd.mk a.b true)
 else
 some (Qd.mk a.b (decide ((a.b.length:Int)<8)))
def QdG (e:Qd)(c:Int)(a:Int):Option ((Int×Int)⊕Int):=
 bif (decide (a<(((e.b.drop 0).take (8-0)).length:Int)))then
 (idx ((e.b.drop 0).take (8-0)) a).bind fun d=>
 some (.inl ((orI .u64 (Qkj .u64 c 8) (IntKind.u64.wrap d)),(w64 (a+1))))
 else
 some (.inr c)
def QdH (a:Qd)(c:Int):Option (Int×Qd):=
 (chk (decide (0≤8)&&decide (8≤a.b.length)&&decide (a.b.length≤a.b.length))).bind fun _=>
 some ((w64 c),(Qd.mk ((a.b.drop 8).take (a.b.length-8)) a.bad))
def Qb6 (a:Qd):Option (Int×Qd):=
 bif a.bad then
 some (0,a)
 else
 (chk (decide (0≤8)&&decide (0≤8)&&decide (8≤a.b.length))).bind fun _=>
 (Q1 (fun st=>QdG a st.1 st.2) (0,0)).bind (fun q=>QdH a q)
def Qu (a:Qd):Option (Int×Qd):=
 (QgK a).bind (fun b=>Qb6 b)
theorem Qq (m){r}(h:Qu m=some r):Qh prog 98 [.loc 607 0 0] [(607,.var (Qb m))] (Qp (.I r.1) [(607,.var (Qb r.2))]):=by
 refine Qh.walk 51 func98 rfl rfl rfl fun C hC=>?_
 refine tg_ hC [.n 7] rfl ?_
 obtain⟨a,w,h⟩:=Qe h
 replace h:Qb6 a=some r:=h
 refine AK.meetX (fun σ=>σ=⟨[(0,.loc 607 0 0)],[(607,.var (Qb a))]⟩) ?_ ?_
 ·replace h:=w
  refine tg_ hC [.n 7] rfl ?_
  refine bg_ h (fun j h=>Qa hC [.S 11 (.b true),.n 10,.O 607 (.var (Qb (Qd.mk m.b true))),.n 1,.K [0] [607]] rfl ⟨(tc_ j),rfl⟩ ?_) fun j h=>Qa hC [.S 11 (.b false),.n 4,.o (.ln m.b.length),.n 5,.O 607 (.var (Qb (Qd.mk m.b (decide ((m.b.length:Int)<8))))),.n 1,.K [0] [607]] rfl ⟨⟨(tc_ j),Qk⟩,rfl⟩ ?_
  ·cases h
   exact AK.met rfl
  cases h
  exact AK.met rfl
 rintro σ rfl
 replace h:Qb6 a=some r:=h
 refine tg_ hC [.n 9] rfl ?_
 rcases QO h with⟨k,h⟩|⟨k,h⟩
 ·refine Qa hC [.T,.n 7] rfl ⟨tt_,k⟩ ?_
  cases h
  exact d1_ rfl rfl ⟨rfl,tt_⟩
 obtain⟨d,h⟩:=QbU h
 refine Qa hC [.F,.n 14,.o (.any (.sl 1 (((a.b.drop 0).take (8-0)).map Qn)) none),.o (.ln ((a.b.drop 0).take (8-0)).length),.n 4,.K [0,3,29,30,31] [607]] rfl ⟨⟨⟨tt_,k⟩,(fun σ c p _=>Stp.sliceD rfl rfl (Qw hC.n rfl) (c _ _ rfl) (Qm.es rfl) Bnd.no (Bnd.val (c _ _ rfl) (Qbd (Qj9 d)) rfl) (Qbd (Qka d)) (QaX (Qbd (QmO d)) (Nat.le_of_eq Qk.symm)) Qlg)⟩,Qk⟩ ?_
 obtain⟨s,t,h⟩:=Qe h
 refine AK.loop (body:=(fun st=>QdG a st.1 st.2)) (fun st σ=>σ=⟨[(0,.loc 607 0 0),(3,.i .u64 st.1),(29,.sl 1 (((a.b.drop 0).take (8-0)).map Qn)),(30,.I (((a.b.drop 0).take (8-0)).length:Int)),(31,.I st.2)],[(607,.var (Qb a))]⟩) (fun q e σ=>e=.exit 0∧σ=⟨[(0,.loc 607 0 0),(3,.i .u64 q)],[(607,.var (Qb a))]⟩) t rfl ?_ ?_
 ·rintro ⟨u,x⟩ o σ rfl h
  refine tg_ hC [.n 6] rfl ?_
  rcases QO h with⟨f,h⟩|⟨f,h⟩
  ·obtain⟨l,v,h⟩:=Qe h
   refine Qa hC [.T,.n 6,.o (.row (Qn l)),.n 6,.o (.any (.i .u64 (Qkj .u64 u 8)) none),.n 1,.o (.any (.i .u64 (IntKind.u64.wrap l)) none),.o (.any (.i .u64 (orI .u64 (Qkj .u64 u 8) (IntKind.u64.wrap l))) none),.n 8,.K [0,3,29,30,31] [607]] rfl ⟨⟨⟨⟨⟨tt_,f⟩,(Qa5 v)⟩,(fun σ c p _=>Stp.shl rfl rfl (Qw hC.n rfl) (c _ _ rfl) (c _ _ rfl) (by decide))⟩,(fun σ c p _=>Stp.convI rfl rfl (Qw hC.n rfl) (c _ _ rfl) Qmh QgD)⟩,(fun σ c p _=>Stp.orB rfl rfl (Qw hC.n rfl) (c _ _ rfl) (c _ _ rfl))⟩ ?_
   cases h
   exact QaU rfl rfl
  refine Qa hC [.F,.n 2,.K [0,3] [607]] rfl ⟨tt_,f⟩ ?_
  cases h
  exact QaN rfl (an_ rfl rfl)
 replace h:QdH a s=some r:=h
 rintro e σ ⟨rfl,rfl⟩
 obtain⟨g,h⟩:=QbU h
 refine Qa hC [.n 9,.o (.any (.sl 1 (((a.b.drop 8).take (a.b.length-8)).map Qn)) none),.n 3,.O 607 (.var (Qb (Qd.mk ((a.b.drop 8).take (a.b.length-8)) a.bad))),.n 5,.o (.any (.I (w64 s)) none),.n 4] rfl ⟨⟨⟨tt_,(fun σ c p _=>Stp.sliceD rfl rfl (Qw hC.n rfl) (c _ _ rfl) (Qm.es rfl) (Bnd.val (c _ _ rfl) (Qbd (Qj9 g)) rfl) (Bnd.none_ Qk) (Qbd (Qka g)) (Nat.le_of_eq Qk.symm) Qlg)⟩,rfl⟩,(fun σ c p _=>Stp.convI rfl rfl (Qw hC.n rfl) (c _ _ rfl) QgD Qmg)⟩ ?_
 cases h
 exact d1_ rfl rfl ⟨rfl,tt_⟩
def Qel (c:Qd)(f:Int)(g:Int)(d:Int)(e:Int):Option (Qd×Qa8):=
 (Qu c).bind fun b=>
 (Qu b.2).bind fun a=>
 some (a.2,(Qa8.mk b.1 a.1 (Qat.mk d ([]:List Int) ([]:List Int) ([]:List Int)) e))
theorem Qgs (m p j c e){r}(h:Qel m p j c e=some r):Qh prog 67 [.loc 607 0 0,.own 608 2] [(607,.var (Qb m)),(608,.var [.loc 609 0 0,.loc 609 0 1]),(609,.var [.I p,.I j,.I c,.lit (.slice none 0 0),.lit (.slice none 0 0),.lit (.slice none 0 0),.I e])] (Qp (.tup []) [(607,.var (Qb r.1)),(608,.var [.loc 609 0 0,.loc 609 0 1]),(609,.var (QP r.2))]):=by
 refine Qh.walk 17 func67 rfl rfl rfl fun C hC=>?_
 refine tg_ hC [.n 8] rfl ?_
 refine AK.loopN 3 (AK.rnd ?_)
 obtain⟨f,k,h⟩:=Qe h
 refine Qa hC [.n 2,.v .no [] (.b true),.n 10,.o (.any (.loc 608 0 0) none),.n 7,.cm (.fn) [(607,607)] [(607,607)] [] [.d] [(607,.var (Qb f.2))] (.I f.1),.n 2,.O 609 (.var [.I f.1,.I j,.I c,.lit (.slice none 0 0),.lit (.slice none 0 0),.lit (.slice none 0 0),.I e]),.n 4,.v .no [] (.I 1),.n 2] rfl ⟨⟨⟨⟨⟨tt_,rfl⟩,(fun σ g l _=>Stp.idxV rfl rfl (Qw hC.n rfl) (g _ _ rfl) (g _ _ rfl) (Qm.es rfl) (l _ _ rfl) (by decide))⟩,(Qq _ k)⟩,rfl⟩,rfl⟩ ?_
 refine AK.met (AK.rnd ?_)
 obtain⟨a,i,h⟩:=Qe h
 refine Qa hC [.n 2,.v .no [] (.b true),.n 10,.o (.any (.loc 608 0 1) none),.n 7,.cm (.fn) [(607,607)] [(607,607)] [] [.d] [(607,.var (Qb a.2))] (.I a.1),.n 2,.O 609 (.var [.I f.1,.I a.1,.I c,.lit (.slice none 0 0),.lit (.slice none 0 0),.lit (.slice none 0 0),.I e]),.n 4,.v .no [] (.I 2),.n 2] rfl ⟨⟨⟨⟨⟨tt_,rfl⟩,(fun σ g l _=>Stp.idxV rfl rfl (Qw hC.n rfl) (g _ _ rfl) (g _ _ rfl) (Qm.es rfl) (l _ _ rfl) (by decide))⟩,(Qq _ i)⟩,rfl⟩,rfl⟩ ?_
 refine AK.met (AK.rnd ?_)
 refine Qa hC [.n 2,.v .no [] (.b false),.n 8,.denilO 609 [none,none,none,some 1,some 1,some 1,none],.O 609 (.var (QP (Qa8.mk f.1 a.1 (Qat.mk c ([]:List Int) ([]:List Int) ([]:List Int)) e))),.K [] [607,608,609]] rfl ⟨⟨tt_,rfl⟩,rfl⟩ ?_
 cases h
 refine AK.done ?_
 exact ex_ [] (an_ tt_ (Qau ⟨rfl,rfl,rfl,tt_⟩))
def Qdd (b:Qd)(c:Int):Option (Qd×Qat):=
 (Qu b).bind fun a=>
 some (a.2,(Qat.mk a.1 ([]:List Int) ([]:List Int) ([]:List Int)))
theorem Qfd (e f){r}(h:Qdd e f=some r):Qh prog 67 [.loc 607 0 0,.own 608 1] [(607,.var (Qb e)),(608,.var [.loc 609 0 0]),(609,.var [.I f,.lit (.slice none 0 0),.lit (.slice none 0 0),.lit (.slice none 0 0)])] (Qp (.tup []) [(607,.var (Qb r.1)),(608,.var [.loc 609 0 0]),(609,.var (Qar r.2))]):=by
 refine Qh.walk 17 func67 rfl rfl rfl fun C hC=>?_
 refine tg_ hC [.n 8] rfl ?_
 refine AK.loopN 2 (AK.rnd ?_)
 obtain⟨a,c,h⟩:=Qe h
 refine Qa hC [.n 2,.v .no [] (.b true),.n 10,.o (.any (.loc 608 0 0) none),.n 7,.cm (.fn) [(607,607)] [(607,607)] [] [.d] [(607,.var (Qb a.2))] (.I a.1),.n 2,.O 609 (.var [.I a.1,.lit (.slice none 0 0),.lit (.slice none 0 0),.lit (.slice none 0 0)]),.n 4,.v .no [] (.I 1),.n 2] rfl ⟨⟨⟨⟨⟨tt_,rfl⟩,(fun σ g i _=>Stp.idxV rfl rfl (Qw hC.n rfl) (g _ _ rfl) (g _ _ rfl) (Qm.es rfl) (i _ _ rfl) (by decide))⟩,(Qq _ c)⟩,rfl⟩,rfl⟩ ?_
 refine AK.met (AK.rnd ?_)
 refine Qa hC [.n 2,.v .no [] (.b false),.n 8,.denilO 609 [none,some 1,some 1,some 1],.O 609 (.var (Qar (Qat.mk a.1 ([]:List Int) ([]:List Int) ([]:List Int)))),.K [] [607,608,609]] rfl ⟨⟨tt_,rfl⟩,rfl⟩ ?_
 cases h
 refine AK.done ?_
 exact ex_ [] (an_ tt_ (Qau ⟨rfl,rfl,rfl,tt_⟩))
def QhC (a:(Int×Qd)):Option Qd:=
 bif a.2.bad then
 some (Qd.mk a.2.b true)
 else
 some (Qd.mk a.2.b (decide (a.1<0)))
def Qem (e:(Int×Qd))(d:Int)(a:Qd)(b:(List Int)):Option ((Int×Qd×(List Int))⊕((List Int)×Qd)):=
 bif ((decide (d<e.1))&&(!a.bad))then
 (Qu a).bind fun c=>
 (chk (decide (b.length+([c.1]:List Int).length≤4294967296))).bind fun _=>
 some (.inl ((w64 (d+1)),c.2,(b++([c.1]:List Int))))
 else
 some (.inr (b,a))
def Qen (a:(List Int))(b:Qd):Option ((List Int)×Qd):=
 some (a,b)
def Qcz (a:(Int×Qd))(b:Qd):Option ((List Int)×Qd):=
 (Q1 (fun st=>Qem a st.1 st.2.1 st.2.2) (0,b,([]:List Int))).bind (fun q=>Qen q.1 q.2)
def Qcl (b:Qd):Option ((List Int)×Qd):=
 (Qu b).bind fun a=>
 (QhC a).bind (fun c=>Qcz a c)
theorem QcA (A){r}(h:Qcl A=some r):Qh prog 102 [.loc 607 0 0,.clo (.func 98) [] []] [(607,.var (Qb A))] (Qp (.own 600 r.1.length) [(600,.arr 1 (r.1.map Qo)),(607,.var (Qb r.2))]):=by
 refine Qh.walk 40 func102 rfl rfl rfl fun C hC=>?_
 obtain⟨c,t,h⟩:=Qe h
 refine Qa hC [.n 8,.cm (.fn) [(607,607)] [(607,607)] [] [.d] [(607,.var (Qb c.2))] (.I c.1),.n 4] rfl ⟨tt_,(Qq _ t)⟩ ?_
 obtain⟨u,w,h⟩:=Qe h
 replace h:Qcz c u=some r:=h
 refine AK.meetX (fun σ=>σ=⟨[(0,.loc 607 0 0),(1,.clo (.func 98) [] []),(5,.I c.1)],[(607,.var (Qb u))]⟩) ?_ ?_
 ·replace h:=w
  refine tg_ hC [.n 7] rfl ?_
  refine bg_ h (fun k h=>Qa hC [.S 15 (.b true),.n 6,.O 607 (.var (Qb (Qd.mk c.2.b true))),.n 1,.K [0,1,5] [607]] rfl ⟨(tc_ k),rfl⟩ ?_) fun k h=>Qa hC [.S 15 (.b false),.n 6,.O 607 (.var (Qb (Qd.mk c.2.b (decide (c.1<0))))),.n 1,.K [0,1,5] [607]] rfl ⟨(tc_ k),rfl⟩ ?_
  ·cases h
   exact AK.met rfl
  cases h
  exact AK.met rfl
 rintro σ rfl
 replace h:Qcz c u=some r:=h
 refine Qa hC [.n 13,.adopt 6 33 1,.O 33 (.arr 1 (([]:List Int).map Qo)),.S 6 (.own 33 ([]:List Int).length),.K [0,1,5,6,7] [33,607]] rfl ⟨⟨tt_,rfl⟩,(congrArg (fun n=>V.own 33 n) (by simp))⟩ ?_
 obtain⟨x,l,h⟩:=Qe h
 refine AK.loop (body:=(fun st=>Qem c st.1 st.2.1 st.2.2)) (fun st σ=>σ=⟨[(0,.loc 607 0 0),(1,.clo (.func 98) [] []),(5,.I c.1),(6,.own 33 st.2.2.length),(7,.I st.1)],[(33,.arr 1 (st.2.2.map Qo)),(607,.var (Qb st.2.1))]⟩) (fun q e σ=>e=.exit 0∧σ=⟨[(6,.own 33 q.1.length)],[(33,.arr 1 (q.1.map Qo)),(607,.var (Qb q.2))]⟩) l rfl ?_ ?_
 ·rintro ⟨m,i,j⟩ o σ rfl h
  refine tg_ hC [.n 2] rfl ?_
  refine AK.meetX (fun σ=>σ=⟨[(0,.loc 607 0 0),(1,.clo (.func 98) [] []),(5,.I c.1),(6,.own 33 j.length),(7,.I m),(30,.b ((decide (m<c.1))&&(!i.bad)))],[(33,.arr 1 (j.map Qo)),(607,.var (Qb i))]⟩) ?_ ?_
  ·refine tg_ hC [.n 5] rfl ?_
   rcases Qda (decide (m<c.1))with a | a
   ·refine Qa hC [.S 24 (.b true),.n 7,.S 30 (.b ((decide (m<c.1))&&(!i.bad))),.K [0,1,5,6,7,30] [33,607]] rfl ⟨(tc_ a),(congrArg V.b (Qis a rfl))⟩ ?_
    exact AK.met rfl
   refine Qa hC [.S 24 (.b false),.n 7,.S 30 (.b ((decide (m<c.1))&&(!i.bad))),.K [0,1,5,6,7,30] [33,607]] rfl ⟨(tc_ a),(congrArg V.b (Qit a rfl))⟩ ?_
   exact AK.met rfl
  rintro σ rfl
  refine tg_ hC [.n 1] rfl ?_
  rcases QO h with⟨f,h⟩|⟨f,h⟩
  ·obtain⟨g,p,h⟩:=Qe h
   obtain⟨s,h⟩:=QbU h
   refine Qa hC [.T,.n 8,.cm (.clo) [(607,607)] [(607,607)] [] [.d] [(607,.var (Qb g.2))] (.I g.1),.v (.bd []) [] (.sl 1 (([g.1]:List Int).map Qo)),.app ((j++([g.1]:List Int)).map Qo) (j++([g.1]:List Int)).length,.n 9,.K [0,1,5,6,7] [33,607]] rfl ⟨⟨⟨⟨tt_,f⟩,(Qq _ p)⟩,rfl⟩,⟨Qk,Qdb s Qk,Qb2,QeD Qk⟩⟩ ?_
   cases h
   exact QaU rfl rfl
  refine Qa hC [.F,.n 2,.K [6] [33,607]] rfl ⟨tt_,f⟩ ?_
  cases h
  exact QaN rfl (an_ rfl rfl)
 obtain⟨y,z⟩:=x
 replace h:Qen y z=some r:=h
 rintro e σ ⟨rfl,rfl⟩
 refine tg_ hC [.n 9,.K [4] [33,607],.ren 33 600] rfl ?_
 cases h
 exact d1_ rfl rfl ⟨rfl,rfl,tt_⟩
def QdA (e:Qd):Option (Qat×Qd):=
 (Qdd e 0).bind fun a=>
 (Qcl a.1).bind fun b=>
 (Qcl b.2).bind fun c=>
 (Qcl c.2).bind fun d=>
 some ((Qat.mk a.2.Task b.1 c.1 d.1),d.2)
theorem Qeo (p){r}(h:QdA p=some r):Qh prog 76 [.loc 607 0 0] [(607,.var (Qb p))] (Qp (.agg (Qar r.1)) [(607,.var (Qb r.2))]):=by
 refine Qh.walk 25 func76 rfl rfl rfl fun C hC=>?_
 obtain⟨c,j,h⟩:=Qe h
 refine Qa hC [.n 14,.o (.any (.own 8 1) (some (.var [.loc 3 0 0]))),.cm (.fn) [(607,607),(608,8),(609,3)] [(607,607),(8,608),(3,609)] [] [.d,.d] [(607,.var (Qb c.1)),(608,.var [.loc 609 0 0]),(609,.var (Qar c.2))] (.tup []),.n 8,.o (.any (.own 13 3) (some (.var [.loc 3 0 1,.loc 3 0 2,.loc 3 0 3]))),.n 5] rfl ⟨⟨⟨tt_,(fun σ a f hf=>Stp.buildAny rfl rfl (Qw hC.n rfl) (Qm.es rfl) Qhr rfl (by decide) (by decide) (Qby a rfl) rfl rfl (hf rfl))⟩,(Qfd _ _ j)⟩,(fun σ a f hf=>Stp.buildAny rfl rfl (Qw hC.n rfl) (Qm.es rfl) QlM rfl (by decide) (by decide) (Qby a rfl) rfl rfl (hf rfl))⟩ ?_
 refine AK.loopN 4 (AK.rnd ?_)
 obtain⟨e,k,h⟩:=Qe h
 refine Qa hC [.n 2,.v .no [] (.b true),.n 10,.o (.any (.loc 13 0 0) none),.n 7,.cm (.fn) [(607,607)] [(21,600),(607,607)] [] [.d,.d] [(600,.arr 1 (e.1.map Qo)),(607,.var (Qb e.2))] (.own 600 e.1.length),.n 2,.O 3 (.var [.I c.2.Task,.own 21 e.1.length,.sl 1 (c.2.Ins.map Qo),.sl 1 (c.2.Outs.map Qo)]),.n 4,.v .no [] (.I 1),.n 2] rfl ⟨⟨⟨⟨⟨tt_,rfl⟩,(fun σ a f _=>Stp.idxV rfl rfl (Qw hC.n rfl) (a _ _ rfl) (a _ _ rfl) (Qm.es rfl) (f _ _ rfl) (by decide))⟩,(QcA _ k)⟩,rfl⟩,rfl⟩ ?_
 refine AK.met (AK.rnd ?_)
 obtain⟨g,l,h⟩:=Qe h
 refine Qa hC [.n 2,.v .no [] (.b true),.n 10,.o (.any (.loc 13 0 1) none),.n 7,.cm (.fn) [(607,607)] [(602,600),(607,607)] [] [.d,.d] [(600,.arr 1 (g.1.map Qo)),(607,.var (Qb g.2))] (.own 600 g.1.length),.n 2,.O 3 (.var [.I c.2.Task,.own 21 e.1.length,.own 602 g.1.length,.sl 1 (c.2.Outs.map Qo)]),.n 4,.v .no [] (.I 2),.n 2] rfl ⟨⟨⟨⟨⟨tt_,rfl⟩,(fun σ a f _=>Stp.idxV rfl rfl (Qw hC.n rfl) (a _ _ rfl) (a _ _ rfl) (Qm.es rfl) (f _ _ rfl) (by decide))⟩,(QcA _ l)⟩,rfl⟩,rfl⟩ ?_
 refine AK.met (AK.rnd ?_)
 obtain⟨i,m,h⟩:=Qe h
 refine Qa hC [.n 2,.v .no [] (.b true),.n 10,.o (.any (.loc 13 0 2) none),.n 7,.cm (.fn) [(607,607)] [(603,600),(607,607)] [] [.d,.d] [(600,.arr 1 (i.1.map Qo)),(607,.var (Qb i.2))] (.own 600 i.1.length),.n 2,.O 3 (.var [.I c.2.Task,.own 21 e.1.length,.own 602 g.1.length,.own 603 i.1.length]),.n 4,.v .no [] (.I 3),.n 2] rfl ⟨⟨⟨⟨⟨tt_,rfl⟩,(fun σ a f _=>Stp.idxV rfl rfl (Qw hC.n rfl) (a _ _ rfl) (a _ _ rfl) (Qm.es rfl) (f _ _ rfl) (by decide))⟩,(QcA _ m)⟩,rfl⟩,rfl⟩ ?_
 refine AK.met (AK.rnd ?_)
 refine Qa hC [.n 2,.v .no [] (.b false),.n 13,.O 2 (.var [.I c.2.Task,.own 21 e.1.length,.own 602 g.1.length,.own 603 i.1.length]),.n 3,.frz 21 (e.1.map Qo) [] [2],.frz 602 (g.1.map Qo) [] [2],.frz 603 (i.1.map Qo) [] [2],.K [2] [2,607]] rfl ⟨⟨⟨⟨⟨tt_,rfl⟩,rfl⟩,⟨tt_,⟨(Qaz Qk),⟨tt_,⟨tt_,tt_⟩⟩⟩⟩⟩,⟨tt_,⟨(Qaz Qk),⟨tt_,tt_⟩⟩⟩⟩,⟨tt_,⟨(Qaz Qk),tt_⟩⟩⟩ ?_
 cases h
 exact AK.done (ex_ [_] (an_ (an_ (ex_ _ (ex_ _ (an_ rfl (an_ rfl (Or.inl (an_ (Qm.ag rfl) (an_ (Qm.sz rfl) rfl))))))) tt_) (Qau ⟨rfl,tt_⟩)))
def Qde (c:Qd)(a:Qa8):Option (Qd×Qa8):=
 (Qu c).bind fun b=>
 some (b.2,(Qa8.mk a.Do a.Id a.Mode b.1))
theorem Qfe (f a){r}(h:Qde f a=some r):Qh prog 67 [.loc 607 0 0,.own 608 1] [(607,.var (Qb f)),(608,.var [.loc 609 0 6]),(609,.var (QP a))] (Qp (.tup []) [(607,.var (Qb r.1)),(608,.var [.loc 609 0 6]),(609,.var (QP r.2))]):=by
 refine Qh.walk 17 func67 rfl rfl rfl fun C hC=>?_
 refine tg_ hC [.n 8] rfl ?_
 refine AK.loopN 2 (AK.rnd ?_)
 obtain⟨c,e,h⟩:=Qe h
 refine Qa hC [.n 2,.v .no [] (.b true),.n 10,.o (.any (.loc 608 0 0) none),.n 7,.cm (.fn) [(607,607)] [(607,607)] [] [.d] [(607,.var (Qb c.2))] (.I c.1),.n 2,.O 609 (.var (QP (Qa8.mk a.Do a.Id a.Mode c.1))),.n 4,.v .no [] (.I 1),.n 2] rfl ⟨⟨⟨⟨⟨tt_,rfl⟩,(fun σ g i _=>Stp.idxV rfl rfl (Qw hC.n rfl) (g _ _ rfl) (g _ _ rfl) (Qm.es rfl) (i _ _ rfl) (by decide))⟩,(Qq _ e)⟩,rfl⟩,rfl⟩ ?_
 refine AK.met (AK.rnd ?_)
 refine Qa hC [.n 2,.v .no [] (.b false),.n 8,.K [] [607,608,609]] rfl ⟨tt_,rfl⟩ ?_
 cases h
 refine AK.done ?_
 exact ex_ [] (an_ tt_ (Qau ⟨rfl,rfl,rfl,tt_⟩))
def Qdf (a:Qd)(c:Qa8):Option (Int×Qa8):=
 bif (a.bad||(decide (0<(a.b.length:Int))))then
 some (4,(Qa8.mk 0 0 (Qat.mk 0 ([]:(List Int)) ([]:(List Int)) ([]:(List Int))) 0))
 else
 some (0,c)
theorem Qff (a e){r}(h:Qdf a e=some r):Qh prog 77 [.loc 607 0 0,.agg (QP e)] [(607,.var (Qb a))] (Qp (.tup [.agg (QP r.2),.I r.1]) [(607,.var (Qb a))]):=by
 refine Qh.walk 21 func77 rfl rfl rfl fun C hC=>?_
 refine tg_ hC [.n 9] rfl ?_
 refine AK.meetX (fun σ=>σ=⟨[(3,.loc 3 0 0),(4,.loc 4 0 0),(18,.b (a.bad||(decide (0<(a.b.length:Int)))))],[(3,.var (QP e)),(4,.var [.I 0,.I 0,.I 0,.lit (.slice none 0 0),.lit (.slice none 0 0),.lit (.slice none 0 0),.I 0]),(607,.var (Qb a))]⟩) ?_ ?_
 ·refine tg_ hC [.n 6] rfl ?_
  rcases Qda a.bad with c | c
  ·refine Qa hC [.S 11 (.b true),.n 8,.S 18 (.b (a.bad||(decide (0<(a.b.length:Int))))),.K [3,4,18] [3,4,607]] rfl ⟨(tc_ c),(congrArg V.b (orT c rfl))⟩ ?_
   exact AK.met rfl
  refine Qa hC [.S 11 (.b false),.n 4,.o (.ln a.b.length),.n 3,.S 18 (.b (a.bad||(decide (0<(a.b.length:Int))))),.K [3,4,18] [3,4,607]] rfl ⟨⟨(tc_ c),Qk⟩,(congrArg V.b (orF c rfl))⟩ ?_
  exact AK.met rfl
 rintro σ rfl
 refine tg_ hC [.n 1] rfl ?_
 refine bg_ h (fun d h=>Qa hC [.T,.n 7,.v .no [none,none,none,some 1,some 1,some 1,none] (.agg (QP (Qa8.mk 0 0 (Qat.mk 0 ([]:(List Int)) ([]:(List Int)) ([]:(List Int))) 0))),.n 1,.O 4 (.var (QP (Qa8.mk 0 0 (Qat.mk 0 ([]:(List Int)) ([]:(List Int)) ([]:(List Int))) 0))),.n 5,.K [4,5] [4,607]] rfl ⟨⟨⟨tt_,d⟩,rfl⟩,rfl⟩ ?_) fun d h=>Qa hC [.F,.n 4,.v .no [] (.agg (QP e)),.n 1,.O 4 (.var (QP e)),.n 4,.K [4,5] [4,607]] rfl ⟨⟨⟨tt_,d⟩,rfl⟩,rfl⟩ ?_
 ·cases h
  exact AK.done (ex_ [_,_] (an_ (an_ (ex_ _ (ex_ _ (an_ rfl (an_ rfl (Or.inl (an_ (Qm.ag rfl) (an_ (Qm.sz rfl) rfl))))))) (an_ rfl tt_)) (Qau ⟨rfl,tt_⟩)))
 cases h
 exact AK.done (ex_ [_,_] (an_ (an_ (ex_ _ (ex_ _ (an_ rfl (an_ rfl (Or.inl (an_ (Qm.ag rfl) (an_ (Qm.sz rfl) rfl))))))) (an_ rfl tt_)) (Qau ⟨rfl,tt_⟩)))
def QcP (e:(List Int)):Option (Int×Qa8):=
 (Qel (Qd.mk e false) 0 0 0 0).bind fun a=>
 (QdA a.1).bind fun b=>
 (Qde b.2 (Qa8.mk a.2.Do a.2.Id b.1 a.2.Num)).bind fun c=>
 (Qdf c.1 c.2).bind fun d=>
 some (d.1,d.2)
theorem QdI (c){r}(h:QcP c=some r):Qh prog 32 [.sl 1 (c.map Qn)] [] (Qp (.tup [.agg (QP r.2),.I r.1]) []):=by
 refine Qh.walk 26 func32 rfl rfl rfl fun C hC=>?_
 obtain⟨a,e,h⟩:=Qe h
 obtain⟨f,g,h⟩:=Qe h
 obtain⟨b,i,h⟩:=Qe h
 obtain⟨j,k,h⟩:=Qe h
 refine Qa hC [.n 9,.v .no [] (.agg (Qb (Qd.mk c false))),.n 14,.o (.any (.own 12 2) (some (.var [.loc 5 0 0,.loc 5 0 1]))),.cm (.fn) [(607,8),(608,12),(609,5)] [(8,607),(12,608),(5,609)] [] [.d,.d] [(607,.var (Qb a.1)),(608,.var [.loc 609 0 0,.loc 609 0 1]),(609,.var (QP a.2))] (.tup []),.n 5,.cm (.fn) [(607,8)] [(8,607)] [] [.d] [(607,.var (Qb f.2))] (.agg (Qar f.1)),.n 2,.O 5 (.var (QP (Qa8.mk a.2.Do a.2.Id f.1 a.2.Num))),.n 6,.o (.any (.own 19 1) (some (.var [.loc 5 0 6]))),.cm (.fn) [(607,8),(608,19),(609,5)] [(8,607),(19,608),(5,609)] [] [.d,.d] [(607,.var (Qb b.1)),(608,.var [.loc 609 0 6]),(609,.var (QP b.2))] (.tup []),.n 5,.v .no [] (.agg (QP b.2)),.cm (.fn) [(607,8)] [(8,607)] [] [.d,.d] [(607,.var (Qb b.1))] (.tup [.agg (QP j.2),.I j.1]),.n 3,.O 2 (.var (QP j.2)),.n 4,.K [2,3] [2]] rfl ⟨⟨⟨⟨⟨⟨⟨⟨⟨⟨tt_,rfl⟩,(fun σ l m hf=>Stp.buildAny rfl rfl (Qw hC.n rfl) (Qm.es rfl) Qhr rfl (by decide) (by decide) (Qby l rfl) rfl rfl (hf rfl))⟩,(Qgs _ _ _ _ _ e)⟩,(Qeo _ g)⟩,rfl⟩,(fun σ l m hf=>Stp.buildAny rfl rfl (Qw hC.n rfl) (Qm.es rfl) Qhr rfl (by decide) (by decide) (Qby l rfl) rfl rfl (hf rfl))⟩,(Qfe _ _ i)⟩,rfl⟩,(Qff _ _ k)⟩,rfl⟩ ?_
 cases h
 exact AK.done (ex_ [_,_] (an_ (an_ (ex_ _ (ex_ _ (an_ rfl (an_ rfl (Or.inl (an_ (Qm.ag rfl) (an_ (Qm.sz rfl) rfl))))))) (an_ rfl tt_)) (Qau tt_)))
def QhB (b:(List Int))(a:(Int×Int)):Option (List Int):=
 (Qag b ([a.1,a.2]:List Int)).bind fun c=>
 some c
theorem QiA (c a){r}(h:QhB c a=some r):Qh prog 92 [.own 605 c.length,.agg (QF a)] [(605,.arr 1 (c.map Qn))] (Qp (.own 605 r.length) [(605,.arr 1 (r.map Qn))]):=by
 refine Qh.walk 8 func92 rfl rfl rfl fun C hC=>?_
 obtain⟨f,e,h⟩:=Qe h
 refine Qa hC [.n 9,.x (fun σ=>(σ.kill 3).put 6 (.sl 1 (([a.1,a.2]:List Int).map Qo))),.cm (.fn) [(605,605)] [(605,605)] [605] [.d,.d] [(605,.arr 1 (f.map Qn))] (.own 605 f.length),.n 4] rfl ⟨⟨tt_,(Stp.sliceVar (b:=3) rfl rfl (Qw hC.n rfl) rfl rfl rfl (Qm.ar rfl) rfl rfl rfl rfl rfl)⟩,(Q5 _ _ e)⟩ ?_
 cases h
 exact d1_ rfl rfl ⟨rfl,tt_⟩
def Qd8 (d:QBg)(a:Int)(e:(List Int)):Option ((Int×(List Int))⊕(List Int)):=
 bif (decide (a<(d.length:Int)))then
 (idx d a).bind fun b=>
 (QhB e b).bind fun c=>
 some (.inl ((w64 (a+1)),c))
 else
 some (.inr e)
def Qd9 (a:(List Int)):Option (List Int):=
 some a
def Qe1 (b:(List Int))(a:QBg):Option (List Int):=
 (Qag b ([(a.length:Int)]:List Int)).bind fun c=>
 (Q1 (fun st=>Qd8 a st.1 st.2) (0,c)).bind (fun q=>Qd9 q)
theorem Qhs (k c){r}(h:Qe1 k c=some r):Qh prog 91 [.own 605 k.length,.sl 2 (c.map QF),.clo (.func 92) [] []] [(605,.arr 1 (k.map Qn))] (Qp (.own 605 r.length) [(605,.arr 1 (r.map Qn))]):=by
 refine Qh.walk 26 func91 rfl rfl rfl fun C hC=>?_
 obtain⟨p,l,h⟩:=Qe h
 refine Qa hC [.n 9,.o (.ln c.length),.v (.bd []) [] (.sl 1 (([(c.length:Int)]:List Int).map Qo)),.cm (.fn) [(605,605)] [(605,605)] [605] [.d,.d] [(605,.arr 1 (p.map Qn))] (.own 605 p.length),.n 7,.o (.ln c.length),.n 4,.K [0,2,14,15,16] [605]] rfl ⟨⟨⟨⟨tt_,Qk⟩,rfl⟩,(Q5 _ _ l)⟩,Qk⟩ ?_
 obtain⟨m,f,h⟩:=Qe h
 refine AK.loop (body:=(fun st=>Qd8 c st.1 st.2)) (fun st σ=>σ=⟨[(0,.own 605 st.2.length),(2,.clo (.func 92) [] []),(14,.sl 2 (c.map QF)),(15,.I (c.length:Int)),(16,.I st.1)],[(605,.arr 1 (st.2.map Qn))]⟩) (fun q e σ=>e=.exit 0∧σ=⟨[(0,.own 605 q.length)],[(605,.arr 1 (q.map Qn))]⟩) f rfl ?_ ?_
 ·rintro ⟨s,t⟩ o σ rfl h
  refine tg_ hC [.n 6] rfl ?_
  rcases QO h with⟨a,h⟩|⟨a,h⟩
  ·obtain⟨b,g,h⟩:=Qe h
   obtain⟨i,j,h⟩:=Qe h
   refine Qa hC [.T,.n 6,.o (.row (QF b)),.v .no [] (.agg (QF b)),.n 2,.O 8 (.var (QF b)),.n 5,.v .no [] (.agg (QF b)),.cm (.clo) [(605,605)] [(605,605)] [605] [.d,.d] [(605,.arr 1 (i.map Qn))] (.own 605 i.length),.n 8,.K [0,2,14,15,16] [605]] rfl ⟨⟨⟨⟨⟨⟨tt_,a⟩,(Qa5 g)⟩,rfl⟩,rfl⟩,rfl⟩,(QiA _ _ j)⟩ ?_
   cases h
   exact QaU rfl rfl
  refine Qa hC [.F,.n 2,.K [0] [605]] rfl ⟨tt_,a⟩ ?_
  cases h
  exact QaN rfl (an_ rfl rfl)
 replace h:Qd9 m=some r:=h
 rintro e σ ⟨rfl,rfl⟩
 refine tg_ hC [.n 9] rfl ?_
 cases h
 exact d1_ rfl rfl ⟨rfl,tt_⟩
def Qio (a:(List Int))(b:QBg):Option (List Int):=
 (Qe1 a b).bind fun c=>
 some c
theorem Qjn (a c){r}(h:Qio a c=some r):Qh prog 57 [.own 605 a.length,.sl 2 (c.map QF)] [(605,.arr 1 (a.map Qn))] (Qp (.own 605 r.length) [(605,.arr 1 (r.map Qn))]):=by
 refine Qh.walk 8 func57 rfl rfl rfl fun C hC=>?_
 obtain⟨e,b,h⟩:=Qe h
 refine Qa hC [.n 9,.cm (.fn) [(605,605)] [(605,605)] [605] [.d,.d,.d] [(605,.arr 1 (e.map Qn))] (.own 605 e.length),.n 4] rfl ⟨tt_,(Qhs _ _ b)⟩ ?_
 cases h
 exact d1_ rfl rfl ⟨rfl,tt_⟩
def Qdg (d:QMk)(a:Int)(e:(List Int)):Option ((Int×(List Int))⊕(List Int)):=
 bif (decide (a<(d.length:Int)))then
 (idx d a).bind fun b=>
 (Qio e b).bind fun c=>
 some (.inl ((w64 (a+1)),c))
 else
 some (.inr e)
def Qdh (a:(List Int)):Option (List Int):=
 some a
def Qep (b:(List Int))(a:QMk):Option (List Int):=
 (Qag b ([(a.length:Int)]:List Int)).bind fun c=>
 (Q1 (fun st=>Qdg a st.1 st.2) (0,c)).bind (fun q=>Qdh q)
theorem Qgt (j b){r}(h:Qep j b=some r):Qh prog 55 [.own 605 j.length,.sl 1 (b.map Q6),.clo (.func 57) [] []] [(605,.arr 1 (j.map Qn))] (Qp (.own 605 r.length) [(605,.arr 1 (r.map Qn))]):=by
 refine Qh.walk 26 func55 rfl rfl rfl fun C hC=>?_
 obtain⟨p,k,h⟩:=Qe h
 refine Qa hC [.n 9,.o (.ln b.length),.v (.bd []) [] (.sl 1 (([(b.length:Int)]:List Int).map Qo)),.cm (.fn) [(605,605)] [(605,605)] [605] [.d,.d] [(605,.arr 1 (p.map Qn))] (.own 605 p.length),.n 7,.o (.ln b.length),.n 4,.K [0,2,14,15,16] [605]] rfl ⟨⟨⟨⟨tt_,Qk⟩,rfl⟩,(Q5 _ _ k)⟩,Qk⟩ ?_
 obtain⟨l,c,h⟩:=Qe h
 refine AK.loop (body:=(fun st=>Qdg b st.1 st.2)) (fun st σ=>σ=⟨[(0,.own 605 st.2.length),(2,.clo (.func 57) [] []),(14,.sl 1 (b.map Q6)),(15,.I (b.length:Int)),(16,.I st.1)],[(605,.arr 1 (st.2.map Qn))]⟩) (fun q e σ=>e=.exit 0∧σ=⟨[(0,.own 605 q.length)],[(605,.arr 1 (q.map Qn))]⟩) c rfl ?_ ?_
 ·rintro ⟨s,t⟩ o σ rfl h
  refine tg_ hC [.n 6] rfl ?_
  rcases QO h with⟨a,h⟩|⟨a,h⟩
  ·obtain⟨m,f,h⟩:=Qe h
   obtain⟨g,i,h⟩:=Qe h
   refine Qa hC [.T,.n 6,.o (.row (Q6 m)),.n 8,.cm (.clo) [(605,605)] [(605,605)] [605] [.d,.d] [(605,.arr 1 (g.map Qn))] (.own 605 g.length),.n 8,.K [0,2,14,15,16] [605]] rfl ⟨⟨⟨tt_,a⟩,(Qa5 f)⟩,(Qjn _ _ i)⟩ ?_
   cases h
   exact QaU rfl rfl
  refine Qa hC [.F,.n 2,.K [0] [605]] rfl ⟨tt_,a⟩ ?_
  cases h
  exact QaN rfl (an_ rfl rfl)
 replace h:Qdh l=some r:=h
 rintro e σ ⟨rfl,rfl⟩
 refine tg_ hC [.n 9] rfl ?_
 cases h
 exact d1_ rfl rfl ⟨rfl,tt_⟩
def QhZ (b:(List Int))(a:Qi):Option (List Int):=
 (Qag b ([a.Id]:List Int)).bind fun c=>
 (Qfz c a.Mode).bind fun d=>
 (Qag d ([a.Batch.Most,a.Batch.Enough,a.Batch.Open,a.Batch.Done,a.Batch.Failed,a.Until]:List Int)).bind fun e=>
 some e
theorem Qi2 (c b){r}(h:QhZ c b=some r):Qh prog 58 [.own 605 c.length,.agg (Qc b)] [(605,.arr 1 (c.map Qn))] (Qp (.own 605 r.length) [(605,.arr 1 (r.map Qn))]):=by
 refine Qh.walk 30 func58 rfl rfl rfl fun C hC=>?_
 obtain⟨i,e,h⟩:=Qe h
 obtain⟨j,f,h⟩:=Qe h
 obtain⟨k,g,h⟩:=Qe h
 refine Qa hC [.n 9,.v .no [] (.agg (Qaf b.Batch)),.n 2,.O 5 (.var (Qaf b.Batch)),.n 3,.K [0,3,4,5] [3,5,605]] rfl ⟨⟨tt_,rfl⟩,rfl⟩ ?_
 refine AK.draw2 Qm hC mixed [.N,.N,.N,.a (.bd []) (some ([],.sl 1 (([b.Id]:List Int).map Qo))) false,.m (.cm (.fn) [(605,605)] [(605,605)] [605] [.d,.d] [(605,.arr 1 (i.map Qn))] (.own 605 i.length) []),.a .no none true,.a .no (some ([],.agg (Qar b.Mode))) true,.m (.cm (.fn) [(605,605)] [(605,605)] [605] [.d,.d] [(605,.arr 1 (j.map Qn))] (.own 605 j.length) []),.a .no none true,.a .no none true,.a .no none true,.a .no none true,.a .no none true,.a .no none true,.a .no none true,.a .no none true,.a .no none true,.a .no none true,.a .no none true,.a .no none true,.a (.bd []) (some ([],.sl 1 (([b.Batch.Most,b.Batch.Enough,b.Batch.Open,b.Batch.Done,b.Batch.Failed,b.Until]:List Int).map Qo))) true,.m (.cm (.fn) [(605,605)] [(605,605)] [605] [.d,.d] [(605,.arr 1 (k.map Qn))] (.own 605 k.length) []),.m .s] [3,4,5] [3,5] [4] [605] rfl rfl rfl ⟨⟨⟨⟨⟨⟨tt_,rfl⟩,⟨tt_,(Q5 _ _ e)⟩⟩,rfl⟩,⟨tt_,(Qf3 _ _ f)⟩⟩,rfl⟩,⟨tt_,(Q5 _ _ g)⟩⟩ rfl (by kernel_rfl) rfl rfl rfl ?_
 refine tg_ hC [.n 2] rfl ?_
 cases h
 exact d1_ rfl rfl ⟨rfl,tt_⟩
def Qc2 (d:(List Qi))(a:Int)(e:(List Int)):Option ((Int×(List Int))⊕(List Int)):=
 bif (decide (a<(d.length:Int)))then
 (idx d a).bind fun b=>
 (QhZ e b).bind fun c=>
 some (.inl ((w64 (a+1)),c))
 else
 some (.inr e)
def Qc3 (a:(List Int)):Option (List Int):=
 some a
def Qea (b:(List Int))(a:(List Qi)):Option (List Int):=
 (Qag b ([(a.length:Int)]:List Int)).bind fun c=>
 (Q1 (fun st=>Qc2 a st.1 st.2) (0,c)).bind (fun q=>Qc3 q)
theorem QfK (k c){r}(h:Qea k c=some r):Qh prog 54 [.own 605 k.length,.sl 11 (c.map Qc),.clo (.func 58) [] []] [(605,.arr 1 (k.map Qn))] (Qp (.own 605 r.length) [(605,.arr 1 (r.map Qn))]):=by
 refine Qh.walk 26 func54 rfl rfl rfl fun C hC=>?_
 obtain⟨p,l,h⟩:=Qe h
 refine Qa hC [.n 9,.o (.ln c.length),.v (.bd []) [] (.sl 1 (([(c.length:Int)]:List Int).map Qo)),.cm (.fn) [(605,605)] [(605,605)] [605] [.d,.d] [(605,.arr 1 (p.map Qn))] (.own 605 p.length),.n 7,.o (.ln c.length),.n 4,.K [0,2,14,15,16] [605]] rfl ⟨⟨⟨⟨tt_,Qk⟩,rfl⟩,(Q5 _ _ l)⟩,Qk⟩ ?_
 obtain⟨m,f,h⟩:=Qe h
 refine AK.loop (body:=(fun st=>Qc2 c st.1 st.2)) (fun st σ=>σ=⟨[(0,.own 605 st.2.length),(2,.clo (.func 58) [] []),(14,.sl 11 (c.map Qc)),(15,.I (c.length:Int)),(16,.I st.1)],[(605,.arr 1 (st.2.map Qn))]⟩) (fun q e σ=>e=.exit 0∧σ=⟨[(0,.own 605 q.length)],[(605,.arr 1 (q.map Qn))]⟩) f rfl ?_ ?_
 ·rintro ⟨s,t⟩ o σ rfl h
  refine tg_ hC [.n 6] rfl ?_
  rcases QO h with⟨a,h⟩|⟨a,h⟩
  ·obtain⟨b,g,h⟩:=Qe h
   obtain⟨i,j,h⟩:=Qe h
   refine Qa hC [.T,.n 6,.o (.row (Qc b)),.v .no [] (.agg (Qc b)),.n 2,.O 8 (.var (Qc b)),.n 5,.v .no [] (.agg (Qc b)),.cm (.clo) [(605,605)] [(605,605)] [605] [.d,.d] [(605,.arr 1 (i.map Qn))] (.own 605 i.length),.n 8,.K [0,2,14,15,16] [605]] rfl ⟨⟨⟨⟨⟨⟨tt_,a⟩,(Qa5 g)⟩,rfl⟩,rfl⟩,rfl⟩,(Qi2 _ _ j)⟩ ?_
   cases h
   exact QaU rfl rfl
  refine Qa hC [.F,.n 2,.K [0] [605]] rfl ⟨tt_,a⟩ ?_
  cases h
  exact QaN rfl (an_ rfl rfl)
 replace h:Qc3 m=some r:=h
 rintro e σ ⟨rfl,rfl⟩
 refine tg_ hC [.n 9] rfl ?_
 cases h
 exact d1_ rfl rfl ⟨rfl,tt_⟩
def QeN (a:Qae):Option (List Int):=
 (Qgr ([a.Next,a.Now]:List Int)).bind fun b=>
 (Qep b a.M).bind fun c=>
 (Qea c a.Items).bind fun d=>
 some d
theorem QgL (b){r}(h:QeN b=some r):Qh prog 24 [.agg (QX b)] [] (Qp (.own 600 r.length) [(600,.arr 1 (r.map Qn))]):=by
 refine Qh.walk 15 func24 rfl rfl rfl fun C hC=>?_
 obtain⟨g,c,h⟩:=Qe h
 obtain⟨i,e,h⟩:=Qe h
 obtain⟨j,f,h⟩:=Qe h
 refine tg_ hC [.n 7,.K [1,2] [1]] rfl ?_
 refine AK.draw2 Qm hC mixed [.N,.N,.N,.N,.a (.bd []) (some ([],.sl 1 (([b.Next,b.Now]:List Int).map Qo))) false,.m (.cm (.fn) [] [(8,600)] [8] [.d,.d] [(600,.arr 1 (g.map Qn))] (.own 600 g.length) []),.a .no none true,.a .no none true,.m (.cm (.fn) [(605,8)] [(8,605)] [8] [.d,.d,.d] [(605,.arr 1 (i.map Qn))] (.own 605 i.length) []),.a .no none true,.a .no none true,.m (.cm (.fn) [(605,8)] [(8,605)] [8] [.d,.d,.d] [(605,.arr 1 (j.map Qn))] (.own 605 j.length) []),.m .s] [1,2] [1] [2] [8] rfl rfl rfl ⟨⟨⟨⟨tt_,rfl⟩,⟨tt_,(QgI _ c)⟩⟩,⟨tt_,(Qgt _ _ e)⟩⟩,⟨tt_,(QfK _ _ f)⟩⟩ rfl (by kernel_rfl) rfl rfl rfl ?_
 refine tg_ hC [.n 2,.K [2] [8],.ren 8 600] rfl ?_
 cases h
 exact d1_ rfl rfl ⟨rfl,tt_⟩
def Qdi (c:Qd)(d:Int)(e:Int):Option (Qd×Qae):=
 (Qu c).bind fun a=>
 (Qu a.2).bind fun b=>
 some (b.2,(Qae.mk ([]:List QBg) ([]:List Qi) a.1 b.1))
theorem Qfg (k l f){r}(h:Qdi k l f=some r):Qh prog 67 [.loc 607 0 0,.own 608 2] [(607,.var (Qb k)),(608,.var [.loc 609 0 2,.loc 609 0 3]),(609,.var [.lit (.slice none 0 0),.lit (.slice none 0 0),.I l,.I f])] (Qp (.tup []) [(607,.var (Qb r.1)),(608,.var [.loc 609 0 2,.loc 609 0 3]),(609,.var (QX r.2))]):=by
 refine Qh.walk 17 func67 rfl rfl rfl fun C hC=>?_
 refine tg_ hC [.n 8] rfl ?_
 refine AK.loopN 3 (AK.rnd ?_)
 obtain⟨a,g,h⟩:=Qe h
 refine Qa hC [.n 2,.v .no [] (.b true),.n 10,.o (.any (.loc 608 0 0) none),.n 7,.cm (.fn) [(607,607)] [(607,607)] [] [.d] [(607,.var (Qb a.2))] (.I a.1),.n 2,.O 609 (.var [.lit (.slice none 0 0),.lit (.slice none 0 0),.I a.1,.I f]),.n 4,.v .no [] (.I 1),.n 2] rfl ⟨⟨⟨⟨⟨tt_,rfl⟩,(fun σ c i _=>Stp.idxV rfl rfl (Qw hC.n rfl) (c _ _ rfl) (c _ _ rfl) (Qm.es rfl) (i _ _ rfl) (by decide))⟩,(Qq _ g)⟩,rfl⟩,rfl⟩ ?_
 refine AK.met (AK.rnd ?_)
 obtain⟨e,j,h⟩:=Qe h
 refine Qa hC [.n 2,.v .no [] (.b true),.n 10,.o (.any (.loc 608 0 1) none),.n 7,.cm (.fn) [(607,607)] [(607,607)] [] [.d] [(607,.var (Qb e.2))] (.I e.1),.n 2,.O 609 (.var [.lit (.slice none 0 0),.lit (.slice none 0 0),.I a.1,.I e.1]),.n 4,.v .no [] (.I 2),.n 2] rfl ⟨⟨⟨⟨⟨tt_,rfl⟩,(fun σ c i _=>Stp.idxV rfl rfl (Qw hC.n rfl) (c _ _ rfl) (c _ _ rfl) (Qm.es rfl) (i _ _ rfl) (by decide))⟩,(Qq _ j)⟩,rfl⟩,rfl⟩ ?_
 refine AK.met (AK.rnd ?_)
 refine Qa hC [.n 2,.v .no [] (.b false),.n 8,.denilO 609 [some 1,some 11,none,none],.O 609 (.var (QX (Qae.mk ([]:List QBg) ([]:List Qi) a.1 e.1))),.K [] [607,608,609]] rfl ⟨⟨tt_,rfl⟩,rfl⟩ ?_
 cases h
 refine AK.done ?_
 exact ex_ [] (an_ tt_ (Qau ⟨rfl,rfl,rfl,tt_⟩))
def Qdj (c:Qd)(d:(Int×Int)):Option (Qd×(Int×Int)):=
 (Qu c).bind fun a=>
 (Qu a.2).bind fun b=>
 some (b.2,(a.1,b.1))
theorem Qfh (k e){r}(h:Qdj k e=some r):Qh prog 67 [.loc 607 0 0,.own 608 2] [(607,.var (Qb k)),(608,.var [.loc 609 0 0,.loc 609 0 1]),(609,.var (QF e))] (Qp (.tup []) [(607,.var (Qb r.1)),(608,.var [.loc 609 0 0,.loc 609 0 1]),(609,.var (QF r.2))]):=by
 refine Qh.walk 17 func67 rfl rfl rfl fun C hC=>?_
 refine tg_ hC [.n 8] rfl ?_
 refine AK.loopN 3 (AK.rnd ?_)
 obtain⟨c,f,h⟩:=Qe h
 refine Qa hC [.n 2,.v .no [] (.b true),.n 10,.o (.any (.loc 608 0 0) none),.n 7,.cm (.fn) [(607,607)] [(607,607)] [] [.d] [(607,.var (Qb c.2))] (.I c.1),.n 2,.O 609 (.var (QF (c.1,e.2))),.n 4,.v .no [] (.I 1),.n 2] rfl ⟨⟨⟨⟨⟨tt_,rfl⟩,(fun σ a g _=>Stp.idxV rfl rfl (Qw hC.n rfl) (a _ _ rfl) (a _ _ rfl) (Qm.es rfl) (g _ _ rfl) (by decide))⟩,(Qq _ f)⟩,rfl⟩,rfl⟩ ?_
 refine AK.met (AK.rnd ?_)
 obtain⟨i,j,h⟩:=Qe h
 refine Qa hC [.n 2,.v .no [] (.b true),.n 10,.o (.any (.loc 608 0 1) none),.n 7,.cm (.fn) [(607,607)] [(607,607)] [] [.d] [(607,.var (Qb i.2))] (.I i.1),.n 2,.O 609 (.var (QF (c.1,i.1))),.n 4,.v .no [] (.I 2),.n 2] rfl ⟨⟨⟨⟨⟨tt_,rfl⟩,(fun σ a g _=>Stp.idxV rfl rfl (Qw hC.n rfl) (a _ _ rfl) (a _ _ rfl) (Qm.es rfl) (g _ _ rfl) (by decide))⟩,(Qq _ j)⟩,rfl⟩,rfl⟩ ?_
 refine AK.met (AK.rnd ?_)
 refine Qa hC [.n 2,.v .no [] (.b false),.n 8,.K [] [607,608,609]] rfl ⟨tt_,rfl⟩ ?_
 cases h
 refine AK.done ?_
 exact ex_ [] (an_ tt_ (Qau ⟨rfl,rfl,rfl,tt_⟩))
def Qe2 (b:Qd):Option ((Int×Int)×Qd):=
 (Qdj b (0,0)).bind fun a=>
 some (a.2,a.1)
theorem Qht (c){r}(h:Qe2 c=some r):Qh prog 100 [.loc 607 0 0] [(607,.var (Qb c))] (Qp (.agg (QF r.1)) [(607,.var (Qb r.2))]):=by
 refine Qh.walk 10 func100 rfl rfl rfl fun C hC=>?_
 obtain⟨a,b,h⟩:=Qe h
 refine Qa hC [.n 15,.o (.any (.own 7 2) (some (.var [.loc 3 0 0,.loc 3 0 1]))),.cm (.fn) [(607,607),(608,7),(609,3)] [(607,607),(7,608),(3,609)] [] [.d,.d] [(607,.var (Qb a.1)),(608,.var [.loc 609 0 0,.loc 609 0 1]),(609,.var (QF a.2))] (.tup []),.n 4,.v .no [] (.agg (QF a.2)),.n 1,.O 2 (.var (QF a.2)),.n 3,.K [2] [2,607]] rfl ⟨⟨⟨⟨tt_,(fun σ e f hf=>Stp.buildAny rfl rfl (Qw hC.n rfl) (Qm.es rfl) Qhr rfl (by decide) (by decide) (Qby e rfl) rfl rfl (hf rfl))⟩,(Qfh _ _ b)⟩,rfl⟩,rfl⟩ ?_
 cases h
 exact AK.done (ex_ [_] (an_ (an_ (ex_ _ (ex_ _ (an_ rfl (an_ rfl (Or.inl (an_ (Qm.ag rfl) (an_ (Qm.sz rfl) rfl))))))) tt_) (Qau ⟨rfl,tt_⟩)))
def QgM (a:(Int×Qd)):Option Qd:=
 bif a.2.bad then
 some (Qd.mk a.2.b true)
 else
 some (Qd.mk a.2.b (decide (a.1<0)))
def QdJ (e:(Int×Qd))(d:Int)(a:Qd)(b:QBg):Option ((Int×Qd×QBg)⊕(QBg×Qd)):=
 bif ((decide (d<e.1))&&(!a.bad))then
 (Qe2 a).bind fun c=>
 (chk (decide (b.length+([c.1]:List (Int×Int)).length≤4294967296))).bind fun _=>
 some (.inl ((w64 (d+1)),c.2,(b++([c.1]:List (Int×Int)))))
 else
 some (.inr (b,a))
def QdK (a:QBg)(b:Qd):Option (QBg×Qd):=
 some (a,b)
def Qb7 (a:(Int×Qd))(b:Qd):Option (QBg×Qd):=
 (Q1 (fun st=>QdJ a st.1 st.2.1 st.2.2) (0,b,([]:List (Int×Int)))).bind (fun q=>QdK q.1 q.2)
def QeO (b:Qd):Option (QBg×Qd):=
 (Qu b).bind fun a=>
 (QgM a).bind (fun c=>Qb7 a c)
theorem QgN (A){r}(h:QeO A=some r):Qh prog 99 [.loc 607 0 0,.clo (.func 100) [] []] [(607,.var (Qb A))] (Qp (.own 600 r.1.length) [(600,.arr 2 (r.1.map QF)),(607,.var (Qb r.2))]):=by
 refine Qh.walk 40 func99 rfl rfl rfl fun C hC=>?_
 obtain⟨c,t,h⟩:=Qe h
 refine Qa hC [.n 8,.cm (.fn) [(607,607)] [(607,607)] [] [.d] [(607,.var (Qb c.2))] (.I c.1),.n 4] rfl ⟨tt_,(Qq _ t)⟩ ?_
 obtain⟨u,w,h⟩:=Qe h
 replace h:Qb7 c u=some r:=h
 refine AK.meetX (fun σ=>σ=⟨[(0,.loc 607 0 0),(1,.clo (.func 100) [] []),(5,.I c.1)],[(607,.var (Qb u))]⟩) ?_ ?_
 ·replace h:=w
  refine tg_ hC [.n 7] rfl ?_
  refine bg_ h (fun k h=>Qa hC [.S 15 (.b true),.n 6,.O 607 (.var (Qb (Qd.mk c.2.b true))),.n 1,.K [0,1,5] [607]] rfl ⟨(tc_ k),rfl⟩ ?_) fun k h=>Qa hC [.S 15 (.b false),.n 6,.O 607 (.var (Qb (Qd.mk c.2.b (decide (c.1<0))))),.n 1,.K [0,1,5] [607]] rfl ⟨(tc_ k),rfl⟩ ?_
  ·cases h
   exact AK.met rfl
  cases h
  exact AK.met rfl
 rintro σ rfl
 replace h:Qb7 c u=some r:=h
 refine Qa hC [.n 13,.adopt 6 33 2,.O 33 (.arr 2 (([]:List (Int×Int)).map QF)),.S 6 (.own 33 ([]:List (Int×Int)).length),.K [0,1,5,6,7] [33,607]] rfl ⟨⟨tt_,rfl⟩,(congrArg (fun n=>V.own 33 n) (by simp))⟩ ?_
 obtain⟨x,l,h⟩:=Qe h
 refine AK.loop (body:=(fun st=>QdJ c st.1 st.2.1 st.2.2)) (fun st σ=>σ=⟨[(0,.loc 607 0 0),(1,.clo (.func 100) [] []),(5,.I c.1),(6,.own 33 st.2.2.length),(7,.I st.1)],[(33,.arr 2 (st.2.2.map QF)),(607,.var (Qb st.2.1))]⟩) (fun q e σ=>e=.exit 0∧σ=⟨[(6,.own 33 q.1.length)],[(33,.arr 2 (q.1.map QF)),(607,.var (Qb q.2))]⟩) l rfl ?_ ?_
 ·rintro ⟨m,i,j⟩ o σ rfl h
  refine tg_ hC [.n 2] rfl ?_
  refine AK.meetX (fun σ=>σ=⟨[(0,.loc 607 0 0),(1,.clo (.func 100) [] []),(5,.I c.1),(6,.own 33 j.length),(7,.I m),(30,.b ((decide (m<c.1))&&(!i.bad)))],[(33,.arr 2 (j.map QF)),(607,.var (Qb i))]⟩) ?_ ?_
  ·refine tg_ hC [.n 5] rfl ?_
   rcases Qda (decide (m<c.1))with a | a
   ·refine Qa hC [.S 24 (.b true),.n 7,.S 30 (.b ((decide (m<c.1))&&(!i.bad))),.K [0,1,5,6,7,30] [33,607]] rfl ⟨(tc_ a),(congrArg V.b (Qis a rfl))⟩ ?_
    exact AK.met rfl
   refine Qa hC [.S 24 (.b false),.n 7,.S 30 (.b ((decide (m<c.1))&&(!i.bad))),.K [0,1,5,6,7,30] [33,607]] rfl ⟨(tc_ a),(congrArg V.b (Qit a rfl))⟩ ?_
   exact AK.met rfl
  rintro σ rfl
  refine tg_ hC [.n 1] rfl ?_
  rcases QO h with⟨f,h⟩|⟨f,h⟩
  ·obtain⟨g,p,h⟩:=Qe h
   obtain⟨s,h⟩:=QbU h
   refine Qa hC [.T,.n 8,.cm (.clo) [(607,607)] [(607,607)] [] [.d] [(607,.var (Qb g.2))] (.agg (QF g.1)),.v (.bd []) [] (.sl 2 (([g.1]:List (Int×Int)).map QF)),.app ((j++([g.1]:List (Int×Int))).map QF) (j++([g.1]:List (Int×Int))).length,.n 9,.K [0,1,5,6,7] [33,607]] rfl ⟨⟨⟨⟨tt_,f⟩,(Qht _ p)⟩,rfl⟩,⟨Qk,Qdb s Qk,Qb2,QeD Qk⟩⟩ ?_
   cases h
   exact QaU rfl rfl
  refine Qa hC [.F,.n 2,.K [6] [33,607]] rfl ⟨tt_,f⟩ ?_
  cases h
  exact QaN rfl (an_ rfl rfl)
 obtain⟨y,z⟩:=x
 replace h:QdK y z=some r:=h
 rintro e σ ⟨rfl,rfl⟩
 refine tg_ hC [.n 9,.K [4] [33,607],.ren 33 600] rfl ?_
 cases h
 exact d1_ rfl rfl ⟨rfl,rfl,tt_⟩
def Qf4 (b:Qd):Option (QBg×Qd):=
 (QeO b).bind fun a=>
 some (a.1,a.2)
theorem Qh0 (c){r}(h:Qf4 c=some r):Qh prog 69 [.loc 607 0 0] [(607,.var (Qb c))] (Qp (.own 600 r.1.length) [(600,.arr 2 (r.1.map QF)),(607,.var (Qb r.2))]):=by
 refine Qh.walk 5 func69 rfl rfl rfl fun C hC=>?_
 obtain⟨a,b,h⟩:=Qe h
 refine Qa hC [.n 8,.cm (.fn) [(607,607)] [(4,600),(607,607)] [] [.d,.d] [(600,.arr 2 (a.1.map QF)),(607,.var (Qb a.2))] (.own 600 a.1.length),.n 4,.K [2] [4,607],.ren 4 600] rfl ⟨tt_,(QgN _ b)⟩ ?_
 cases h
 exact d1_ rfl rfl ⟨rfl,rfl,tt_⟩
def QfL (a:(Int×Qd)):Option Qd:=
 bif a.2.bad then
 some (Qd.mk a.2.b true)
 else
 some (Qd.mk a.2.b (decide (a.1<0)))
def Qc4 (e:(Int×Qd))(d:Int)(a:Qd)(b:QMk):Option ((Int×Qd×QMk)⊕(QMk×Qd)):=
 bif ((decide (d<e.1))&&(!a.bad))then
 (Qf4 a).bind fun c=>
 (chk (decide (b.length+([c.1]:List QBg).length≤4294967296))).bind fun _=>
 some (.inl ((w64 (d+1)),c.2,(b++([c.1]:List QBg))))
 else
 some (.inr (b,a))
def Qc5 (a:QMk)(b:Qd):Option (QMk×Qd):=
 some (a,b)
def QbG (a:(Int×Qd))(b:Qd):Option (QMk×Qd):=
 (Q1 (fun st=>Qc4 a st.1 st.2.1 st.2.2) (0,b,([]:List QBg))).bind (fun q=>Qc5 q.1 q.2)
def Qeb (b:Qd):Option (QMk×Qd):=
 (Qu b).bind fun a=>
 (QfL a).bind (fun c=>QbG a c)
theorem QfM (A){r}(h:Qeb A=some r):Qh prog 68 [.loc 607 0 0,.clo (.func 69) [] []] [(607,.var (Qb A))] (Qp (.own 600 r.1.length) [(600,.arr 1 (r.1.map Q6)),(607,.var (Qb r.2))]):=by
 refine Qh.walk 40 func68 rfl rfl rfl fun C hC=>?_
 obtain⟨c,t,h⟩:=Qe h
 refine Qa hC [.n 8,.cm (.fn) [(607,607)] [(607,607)] [] [.d] [(607,.var (Qb c.2))] (.I c.1),.n 4] rfl ⟨tt_,(Qq _ t)⟩ ?_
 obtain⟨u,w,h⟩:=Qe h
 replace h:QbG c u=some r:=h
 refine AK.meetX (fun σ=>σ=⟨[(0,.loc 607 0 0),(1,.clo (.func 69) [] []),(5,.I c.1)],[(607,.var (Qb u))]⟩) ?_ ?_
 ·replace h:=w
  refine tg_ hC [.n 7] rfl ?_
  refine bg_ h (fun k h=>Qa hC [.S 15 (.b true),.n 6,.O 607 (.var (Qb (Qd.mk c.2.b true))),.n 1,.K [0,1,5] [607]] rfl ⟨(tc_ k),rfl⟩ ?_) fun k h=>Qa hC [.S 15 (.b false),.n 6,.O 607 (.var (Qb (Qd.mk c.2.b (decide (c.1<0))))),.n 1,.K [0,1,5] [607]] rfl ⟨(tc_ k),rfl⟩ ?_
  ·cases h
   exact AK.met rfl
  cases h
  exact AK.met rfl
 rintro σ rfl
 replace h:QbG c u=some r:=h
 refine Qa hC [.n 13,.adopt 6 33 1,.O 33 (.arr 1 (([]:List QBg).map Q6)),.S 6 (.own 33 ([]:List QBg).length),.K [0,1,5,6,7] [33,607]] rfl ⟨⟨tt_,rfl⟩,(congrArg (fun n=>V.own 33 n) (by simp))⟩ ?_
 obtain⟨x,l,h⟩:=Qe h
 refine AK.loop (body:=(fun st=>Qc4 c st.1 st.2.1 st.2.2)) (fun st σ=>σ=⟨[(0,.loc 607 0 0),(1,.clo (.func 69) [] []),(5,.I c.1),(6,.own 33 st.2.2.length),(7,.I st.1)],[(33,.arr 1 (st.2.2.map Q6)),(607,.var (Qb st.2.1))]⟩) (fun q e σ=>e=.exit 0∧σ=⟨[(6,.own 33 q.1.length)],[(33,.arr 1 (q.1.map Q6)),(607,.var (Qb q.2))]⟩) l rfl ?_ ?_
 ·rintro ⟨m,i,j⟩ o σ rfl h
  refine tg_ hC [.n 2] rfl ?_
  refine AK.meetX (fun σ=>σ=⟨[(0,.loc 607 0 0),(1,.clo (.func 69) [] []),(5,.I c.1),(6,.own 33 j.length),(7,.I m),(30,.b ((decide (m<c.1))&&(!i.bad)))],[(33,.arr 1 (j.map Q6)),(607,.var (Qb i))]⟩) ?_ ?_
  ·refine tg_ hC [.n 5] rfl ?_
   rcases Qda (decide (m<c.1))with a | a
   ·refine Qa hC [.S 24 (.b true),.n 7,.S 30 (.b ((decide (m<c.1))&&(!i.bad))),.K [0,1,5,6,7,30] [33,607]] rfl ⟨(tc_ a),(congrArg V.b (Qis a rfl))⟩ ?_
    exact AK.met rfl
   refine Qa hC [.S 24 (.b false),.n 7,.S 30 (.b ((decide (m<c.1))&&(!i.bad))),.K [0,1,5,6,7,30] [33,607]] rfl ⟨(tc_ a),(congrArg V.b (Qit a rfl))⟩ ?_
   exact AK.met rfl
  rintro σ rfl
  refine tg_ hC [.n 1] rfl ?_
  rcases QO h with⟨g,h⟩|⟨g,h⟩
  ·obtain⟨f,p,h⟩:=Qe h
   obtain⟨s,h⟩:=QbU h
   refine Qa hC [.T,.n 8,.cm (.clo) [(607,607)] [(36,600),(607,607)] [] [.d] [(600,.arr 2 (f.1.map QF)),(607,.var (Qb f.2))] (.own 600 f.1.length),.frz 36 (f.1.map QF) [36] [],.v (.bd []) [] (.sl 1 (([f.1]:List QBg).map Q6)),.app ((j++([f.1]:List QBg)).map Q6) (j++([f.1]:List QBg)).length,.n 9,.K [0,1,5,6,7] [33,607]] rfl ⟨⟨⟨⟨⟨tt_,g⟩,(Qh0 _ p)⟩,⟨tt_,(Qaz Qk)⟩⟩,rfl⟩,⟨Qk,Qdb s Qk,Qb2,QeD Qk⟩⟩ ?_
   cases h
   exact QaU rfl rfl
  refine Qa hC [.F,.n 2,.K [6] [33,607]] rfl ⟨tt_,g⟩ ?_
  cases h
  exact QaN rfl (an_ rfl rfl)
 obtain⟨y,z⟩:=x
 replace h:Qc5 y z=some r:=h
 rintro e σ ⟨rfl,rfl⟩
 refine tg_ hC [.n 9,.K [4] [33,607],.ren 33 600] rfl ?_
 cases h
 exact d1_ rfl rfl ⟨rfl,rfl,tt_⟩
def Qdk (h:Qd)(b:Qi):Option (Qd×Qi):=
 (Qu h).bind fun c=>
 (Qu c.2).bind fun d=>
 (Qu d.2).bind fun e=>
 (Qu e.2).bind fun f=>
 (Qu f.2).bind fun g=>
 (Qu g.2).bind fun a=>
 some (a.2,(Qi.mk b.Id b.Mode (Q3.mk c.1 d.1 e.1 f.1 g.1) a.1))
theorem Qfi (w a){r}(h:Qdk w a=some r):Qh prog 67 [.loc 607 0 0,.own 608 6] [(607,.var (Qb w)),(608,.var [.loc 609 0 5,.loc 609 0 6,.loc 609 0 7,.loc 609 0 8,.loc 609 0 9,.loc 609 0 10]),(609,.var (Qc a))] (Qp (.tup []) [(607,.var (Qb r.1)),(608,.var [.loc 609 0 5,.loc 609 0 6,.loc 609 0 7,.loc 609 0 8,.loc 609 0 9,.loc 609 0 10]),(609,.var (Qc r.2))]):=by
 refine Qh.walk 17 func67 rfl rfl rfl fun C hC=>?_
 refine tg_ hC [.n 8] rfl ?_
 refine AK.loopN 7 (AK.rnd ?_)
 obtain⟨f,p,h⟩:=Qe h
 refine Qa hC [.n 2,.v .no [] (.b true),.n 10,.o (.any (.loc 608 0 0) none),.n 7,.cm (.fn) [(607,607)] [(607,607)] [] [.d] [(607,.var (Qb f.2))] (.I f.1),.n 2,.O 609 (.var (Qc (Qi.mk a.Id a.Mode (Q3.mk f.1 a.Batch.Enough a.Batch.Open a.Batch.Done a.Batch.Failed) a.Until))),.n 4,.v .no [] (.I 1),.n 2] rfl ⟨⟨⟨⟨⟨tt_,rfl⟩,(fun σ c e _=>Stp.idxV rfl rfl (Qw hC.n rfl) (c _ _ rfl) (c _ _ rfl) (Qm.es rfl) (e _ _ rfl) (by decide))⟩,(Qq _ p)⟩,rfl⟩,rfl⟩ ?_
 refine AK.met (AK.rnd ?_)
 obtain⟨g,q,h⟩:=Qe h
 refine Qa hC [.n 2,.v .no [] (.b true),.n 10,.o (.any (.loc 608 0 1) none),.n 7,.cm (.fn) [(607,607)] [(607,607)] [] [.d] [(607,.var (Qb g.2))] (.I g.1),.n 2,.O 609 (.var (Qc (Qi.mk a.Id a.Mode (Q3.mk f.1 g.1 a.Batch.Open a.Batch.Done a.Batch.Failed) a.Until))),.n 4,.v .no [] (.I 2),.n 2] rfl ⟨⟨⟨⟨⟨tt_,rfl⟩,(fun σ c e _=>Stp.idxV rfl rfl (Qw hC.n rfl) (c _ _ rfl) (c _ _ rfl) (Qm.es rfl) (e _ _ rfl) (by decide))⟩,(Qq _ q)⟩,rfl⟩,rfl⟩ ?_
 refine AK.met (AK.rnd ?_)
 obtain⟨j,s,h⟩:=Qe h
 refine Qa hC [.n 2,.v .no [] (.b true),.n 10,.o (.any (.loc 608 0 2) none),.n 7,.cm (.fn) [(607,607)] [(607,607)] [] [.d] [(607,.var (Qb j.2))] (.I j.1),.n 2,.O 609 (.var (Qc (Qi.mk a.Id a.Mode (Q3.mk f.1 g.1 j.1 a.Batch.Done a.Batch.Failed) a.Until))),.n 4,.v .no [] (.I 3),.n 2] rfl ⟨⟨⟨⟨⟨tt_,rfl⟩,(fun σ c e _=>Stp.idxV rfl rfl (Qw hC.n rfl) (c _ _ rfl) (c _ _ rfl) (Qm.es rfl) (e _ _ rfl) (by decide))⟩,(Qq _ s)⟩,rfl⟩,rfl⟩ ?_
 refine AK.met (AK.rnd ?_)
 obtain⟨k,t,h⟩:=Qe h
 refine Qa hC [.n 2,.v .no [] (.b true),.n 10,.o (.any (.loc 608 0 3) none),.n 7,.cm (.fn) [(607,607)] [(607,607)] [] [.d] [(607,.var (Qb k.2))] (.I k.1),.n 2,.O 609 (.var (Qc (Qi.mk a.Id a.Mode (Q3.mk f.1 g.1 j.1 k.1 a.Batch.Failed) a.Until))),.n 4,.v .no [] (.I 4),.n 2] rfl ⟨⟨⟨⟨⟨tt_,rfl⟩,(fun σ c e _=>Stp.idxV rfl rfl (Qw hC.n rfl) (c _ _ rfl) (c _ _ rfl) (Qm.es rfl) (e _ _ rfl) (by decide))⟩,(Qq _ t)⟩,rfl⟩,rfl⟩ ?_
 refine AK.met (AK.rnd ?_)
 obtain⟨m,u,h⟩:=Qe h
 refine Qa hC [.n 2,.v .no [] (.b true),.n 10,.o (.any (.loc 608 0 4) none),.n 7,.cm (.fn) [(607,607)] [(607,607)] [] [.d] [(607,.var (Qb m.2))] (.I m.1),.n 2,.O 609 (.var (Qc (Qi.mk a.Id a.Mode (Q3.mk f.1 g.1 j.1 k.1 m.1) a.Until))),.n 4,.v .no [] (.I 5),.n 2] rfl ⟨⟨⟨⟨⟨tt_,rfl⟩,(fun σ c e _=>Stp.idxV rfl rfl (Qw hC.n rfl) (c _ _ rfl) (c _ _ rfl) (Qm.es rfl) (e _ _ rfl) (by decide))⟩,(Qq _ u)⟩,rfl⟩,rfl⟩ ?_
 refine AK.met (AK.rnd ?_)
 obtain⟨i,l,h⟩:=Qe h
 refine Qa hC [.n 2,.v .no [] (.b true),.n 10,.o (.any (.loc 608 0 5) none),.n 7,.cm (.fn) [(607,607)] [(607,607)] [] [.d] [(607,.var (Qb i.2))] (.I i.1),.n 2,.O 609 (.var (Qc (Qi.mk a.Id a.Mode (Q3.mk f.1 g.1 j.1 k.1 m.1) i.1))),.n 4,.v .no [] (.I 6),.n 2] rfl ⟨⟨⟨⟨⟨tt_,rfl⟩,(fun σ c e _=>Stp.idxV rfl rfl (Qw hC.n rfl) (c _ _ rfl) (c _ _ rfl) (Qm.es rfl) (e _ _ rfl) (by decide))⟩,(Qq _ l)⟩,rfl⟩,rfl⟩ ?_
 refine AK.met (AK.rnd ?_)
 refine Qa hC [.n 2,.v .no [] (.b false),.n 8,.K [] [607,608,609]] rfl ⟨tt_,rfl⟩ ?_
 cases h
 refine AK.done ?_
 exact ex_ [] (an_ tt_ (Qau ⟨rfl,rfl,rfl,tt_⟩))
def QfA (d:Qd):Option (Qi×Qd):=
 (Qu d).bind fun a=>
 (QdA a.2).bind fun b=>
 (Qdk b.2 (Qi.mk a.1 b.1 (Q3.mk 0 0 0 0 0) 0)).bind fun c=>
 some (c.2,c.1)
theorem QhD (j){r}(h:QfA j=some r):Qh prog 71 [.loc 607 0 0] [(607,.var (Qb j))] (Qp (.agg (Qc r.1)) [(607,.var (Qb r.2))]):=by
 refine Qh.walk 31 func71 rfl rfl rfl fun C hC=>?_
 obtain⟨c,f,h⟩:=Qe h
 obtain⟨e,g,h⟩:=Qe h
 obtain⟨b,i,h⟩:=Qe h
 refine Qa hC [.n 8,.cm (.fn) [(607,607)] [(607,607)] [] [.d] [(607,.var (Qb c.2))] (.I c.1),.n 1,.cm (.fn) [(607,607)] [(607,607)] [] [.d] [(607,.var (Qb e.2))] (.agg (Qar e.1)),.v .no [] (.agg (Qc (Qi.mk c.1 e.1 (Q3.mk 0 0 0 0 0) 0))),.n 2,.O 3 (.var (Qc (Qi.mk c.1 e.1 (Q3.mk 0 0 0 0 0) 0))),.n 9,.K [0,2,3,4] [2,3,607]] rfl ⟨⟨⟨⟨tt_,(Qq _ f)⟩,(Qeo _ g)⟩,rfl⟩,rfl⟩ ?_
 refine AK.draw2 Qm hC mixed [.N,.N,.N,.N,.N,.N,.N,.N,.N,.N,.N,.N,.N,.N,.N,.N,.N,.a (.any (.own 28 6) (some (.var [.loc 3 0 5,.loc 3 0 6,.loc 3 0 7,.loc 3 0 8,.loc 3 0 9,.loc 3 0 10]))) none false,.m (.cm (.fn) [(607,607),(608,28),(609,3)] [(607,607),(28,608),(3,609)] [] [.d,.d] [(607,.var (Qb b.1)),(608,.var [.loc 609 0 5,.loc 609 0 6,.loc 609 0 7,.loc 609 0 8,.loc 609 0 9,.loc 609 0 10]),(609,.var (Qc b.2))] (.tup []) [28])] [] [] [2,3] [2,3,607] rfl rfl rfl ⟨⟨tt_,(fun σ k l hf=>Stp.buildAny rfl rfl (Qw hC.n rfl) (Qm.es rfl) Qhr rfl (by decide) (by decide) (Qby k rfl) rfl rfl (hf rfl))⟩,⟨⟨tt_,(Qfi _ _ i)⟩,⟨rfl,tt_⟩⟩⟩ rfl (by kernel_rfl) rfl rfl rfl ?_
 refine Qa hC [.O 3 (.var (Qc b.2)),.O 607 (.var (Qb b.1)),.n 3,.v .no [] (.agg (Qc b.2)),.n 1,.O 2 (.var (Qc b.2)),.n 3,.K [2] [2,607]] rfl ⟨⟨⟨⟨tt_,rfl⟩,rfl⟩,rfl⟩,rfl⟩ ?_
 cases h
 exact AK.done (ex_ [_] (an_ (an_ (ex_ _ (ex_ _ (an_ rfl (an_ rfl (Or.inl (an_ (Qm.ag rfl) (an_ (Qm.sz rfl) rfl))))))) tt_) (Qau ⟨rfl,tt_⟩)))
def QfB (a:(Int×Qd)):Option Qd:=
 bif a.2.bad then
 some (Qd.mk a.2.b true)
 else
 some (Qd.mk a.2.b (decide (a.1<0)))
def QcQ (e:(Int×Qd))(d:Int)(a:Qd)(b:(List Qi)):Option ((Int×Qd×(List Qi))⊕((List Qi)×Qd)):=
 bif ((decide (d<e.1))&&(!a.bad))then
 (QfA a).bind fun c=>
 (chk (decide (b.length+([c.1]:List Qi).length≤4294967296))).bind fun _=>
 some (.inl ((w64 (d+1)),c.2,(b++([c.1]:List Qi))))
 else
 some (.inr (b,a))
def QcR (a:(List Qi))(b:Qd):Option ((List Qi)×Qd):=
 some (a,b)
def Qbz (a:(Int×Qd))(b:Qd):Option ((List Qi)×Qd):=
 (Q1 (fun st=>QcQ a st.1 st.2.1 st.2.2) (0,b,([]:List Qi))).bind (fun q=>QcR q.1 q.2)
def QdL (b:Qd):Option ((List Qi)×Qd):=
 (Qu b).bind fun a=>
 (QfB a).bind (fun c=>Qbz a c)
theorem QfC (A){r}(h:QdL A=some r):Qh prog 70 [.loc 607 0 0,.clo (.func 71) [] []] [(607,.var (Qb A))] (Qp (.own 600 r.1.length) [(600,.arr 11 (r.1.map Qc)),(607,.var (Qb r.2))]):=by
 refine Qh.walk 40 func70 rfl rfl rfl fun C hC=>?_
 obtain⟨c,t,h⟩:=Qe h
 refine Qa hC [.n 8,.cm (.fn) [(607,607)] [(607,607)] [] [.d] [(607,.var (Qb c.2))] (.I c.1),.n 4] rfl ⟨tt_,(Qq _ t)⟩ ?_
 obtain⟨u,w,h⟩:=Qe h
 replace h:Qbz c u=some r:=h
 refine AK.meetX (fun σ=>σ=⟨[(0,.loc 607 0 0),(1,.clo (.func 71) [] []),(5,.I c.1)],[(607,.var (Qb u))]⟩) ?_ ?_
 ·replace h:=w
  refine tg_ hC [.n 7] rfl ?_
  refine bg_ h (fun k h=>Qa hC [.S 15 (.b true),.n 6,.O 607 (.var (Qb (Qd.mk c.2.b true))),.n 1,.K [0,1,5] [607]] rfl ⟨(tc_ k),rfl⟩ ?_) fun k h=>Qa hC [.S 15 (.b false),.n 6,.O 607 (.var (Qb (Qd.mk c.2.b (decide (c.1<0))))),.n 1,.K [0,1,5] [607]] rfl ⟨(tc_ k),rfl⟩ ?_
  ·cases h
   exact AK.met rfl
  cases h
  exact AK.met rfl
 rintro σ rfl
 replace h:Qbz c u=some r:=h
 refine Qa hC [.n 13,.adopt 6 33 11,.O 33 (.arr 11 (([]:List Qi).map Qc)),.S 6 (.own 33 ([]:List Qi).length),.K [0,1,5,6,7] [33,607]] rfl ⟨⟨tt_,rfl⟩,(congrArg (fun n=>V.own 33 n) (by simp))⟩ ?_
 obtain⟨x,l,h⟩:=Qe h
 refine AK.loop (body:=(fun st=>QcQ c st.1 st.2.1 st.2.2)) (fun st σ=>σ=⟨[(0,.loc 607 0 0),(1,.clo (.func 71) [] []),(5,.I c.1),(6,.own 33 st.2.2.length),(7,.I st.1)],[(33,.arr 11 (st.2.2.map Qc)),(607,.var (Qb st.2.1))]⟩) (fun q e σ=>e=.exit 0∧σ=⟨[(6,.own 33 q.1.length)],[(33,.arr 11 (q.1.map Qc)),(607,.var (Qb q.2))]⟩) l rfl ?_ ?_
 ·rintro ⟨m,i,j⟩ o σ rfl h
  refine tg_ hC [.n 2] rfl ?_
  refine AK.meetX (fun σ=>σ=⟨[(0,.loc 607 0 0),(1,.clo (.func 71) [] []),(5,.I c.1),(6,.own 33 j.length),(7,.I m),(30,.b ((decide (m<c.1))&&(!i.bad)))],[(33,.arr 11 (j.map Qc)),(607,.var (Qb i))]⟩) ?_ ?_
  ·refine tg_ hC [.n 5] rfl ?_
   rcases Qda (decide (m<c.1))with a | a
   ·refine Qa hC [.S 24 (.b true),.n 7,.S 30 (.b ((decide (m<c.1))&&(!i.bad))),.K [0,1,5,6,7,30] [33,607]] rfl ⟨(tc_ a),(congrArg V.b (Qis a rfl))⟩ ?_
    exact AK.met rfl
   refine Qa hC [.S 24 (.b false),.n 7,.S 30 (.b ((decide (m<c.1))&&(!i.bad))),.K [0,1,5,6,7,30] [33,607]] rfl ⟨(tc_ a),(congrArg V.b (Qit a rfl))⟩ ?_
   exact AK.met rfl
  rintro σ rfl
  refine tg_ hC [.n 1] rfl ?_
  rcases QO h with⟨f,h⟩|⟨f,h⟩
  ·obtain⟨g,p,h⟩:=Qe h
   obtain⟨s,h⟩:=QbU h
   refine Qa hC [.T,.n 8,.cm (.clo) [(607,607)] [(607,607)] [] [.d] [(607,.var (Qb g.2))] (.agg (Qc g.1)),.v (.bd []) [] (.sl 11 (([g.1]:List Qi).map Qc)),.app ((j++([g.1]:List Qi)).map Qc) (j++([g.1]:List Qi)).length,.n 9,.K [0,1,5,6,7] [33,607]] rfl ⟨⟨⟨⟨tt_,f⟩,(QhD _ p)⟩,rfl⟩,⟨Qk,Qdb s Qk,Qb2,QeD Qk⟩⟩ ?_
   cases h
   exact QaU rfl rfl
  refine Qa hC [.F,.n 2,.K [6] [33,607]] rfl ⟨tt_,f⟩ ?_
  cases h
  exact QaN rfl (an_ rfl rfl)
 obtain⟨y,z⟩:=x
 replace h:QcR y z=some r:=h
 rintro e σ ⟨rfl,rfl⟩
 refine tg_ hC [.n 9,.K [4] [33,607],.ren 33 600] rfl ?_
 cases h
 exact d1_ rfl rfl ⟨rfl,rfl,tt_⟩
def Qdl (a:Qd)(c:Qae):Option (Int×Qae):=
 bif (a.bad||(decide (0<(a.b.length:Int))))then
 some (4,(Qae.mk ([]:QMk) ([]:(List Qi)) 0 0))
 else
 some (0,c)
theorem Qfj (a e){r}(h:Qdl a e=some r):Qh prog 72 [.loc 607 0 0,.agg (QX e)] [(607,.var (Qb a))] (Qp (.tup [.agg (QX r.2),.I r.1]) [(607,.var (Qb a))]):=by
 refine Qh.walk 21 func72 rfl rfl rfl fun C hC=>?_
 refine tg_ hC [.n 9] rfl ?_
 refine AK.meetX (fun σ=>σ=⟨[(3,.loc 3 0 0),(4,.loc 4 0 0),(18,.b (a.bad||(decide (0<(a.b.length:Int)))))],[(3,.var (QX e)),(4,.var [.lit (.slice none 0 0),.lit (.slice none 0 0),.I 0,.I 0]),(607,.var (Qb a))]⟩) ?_ ?_
 ·refine tg_ hC [.n 6] rfl ?_
  rcases Qda a.bad with c | c
  ·refine Qa hC [.S 11 (.b true),.n 8,.S 18 (.b (a.bad||(decide (0<(a.b.length:Int))))),.K [3,4,18] [3,4,607]] rfl ⟨(tc_ c),(congrArg V.b (orT c rfl))⟩ ?_
   exact AK.met rfl
  refine Qa hC [.S 11 (.b false),.n 4,.o (.ln a.b.length),.n 3,.S 18 (.b (a.bad||(decide (0<(a.b.length:Int))))),.K [3,4,18] [3,4,607]] rfl ⟨⟨(tc_ c),Qk⟩,(congrArg V.b (orF c rfl))⟩ ?_
  exact AK.met rfl
 rintro σ rfl
 refine tg_ hC [.n 1] rfl ?_
 refine bg_ h (fun d h=>Qa hC [.T,.n 7,.v .no [some 1,some 11,none,none] (.agg (QX (Qae.mk ([]:QMk) ([]:(List Qi)) 0 0))),.n 1,.O 4 (.var (QX (Qae.mk ([]:QMk) ([]:(List Qi)) 0 0))),.n 5,.K [4,5] [4,607]] rfl ⟨⟨⟨tt_,d⟩,rfl⟩,rfl⟩ ?_) fun d h=>Qa hC [.F,.n 4,.v .no [] (.agg (QX e)),.n 1,.O 4 (.var (QX e)),.n 4,.K [4,5] [4,607]] rfl ⟨⟨⟨tt_,d⟩,rfl⟩,rfl⟩ ?_
 ·cases h
  exact AK.done (ex_ [_,_] (an_ (an_ (ex_ _ (ex_ _ (an_ rfl (an_ rfl (Or.inl (an_ (Qm.ag rfl) (an_ (Qm.sz rfl) rfl))))))) (an_ rfl tt_)) (Qau ⟨rfl,tt_⟩)))
 cases h
 exact AK.done (ex_ [_,_] (an_ (an_ (ex_ _ (ex_ _ (an_ rfl (an_ rfl (Or.inl (an_ (Qm.ag rfl) (an_ (Qm.sz rfl) rfl))))))) (an_ rfl tt_)) (Qau ⟨rfl,tt_⟩)))
def QeP (e:(List Int)):Option (Int×Qae):=
 (Qdi (Qd.mk e false) 0 0).bind fun a=>
 (Qeb a.1).bind fun b=>
 (QdL b.2).bind fun c=>
 (Qdl c.2 (Qae.mk b.1 c.1 a.2.Next a.2.Now)).bind fun d=>
 some (d.1,d.2)
theorem QgO (e){r}(h:QeP e=some r):Qh prog 30 [.sl 1 (e.map Qn)] [] (Qp (.tup [.agg (QX r.2),.I r.1]) []):=by
 refine Qh.walk 25 func30 rfl rfl rfl fun C hC=>?_
 obtain⟨a,f,h⟩:=Qe h
 obtain⟨b,g,h⟩:=Qe h
 obtain⟨c,i,h⟩:=Qe h
 obtain⟨j,k,h⟩:=Qe h
 refine Qa hC [.n 9,.v .no [] (.agg (Qb (Qd.mk e false))),.n 14,.o (.any (.own 12 2) (some (.var [.loc 5 0 2,.loc 5 0 3]))),.cm (.fn) [(607,8),(608,12),(609,5)] [(8,607),(12,608),(5,609)] [] [.d,.d] [(607,.var (Qb a.1)),(608,.var [.loc 609 0 2,.loc 609 0 3]),(609,.var (QX a.2))] (.tup []),.n 5,.cm (.fn) [(607,8)] [(15,600),(8,607)] [] [.d,.d] [(600,.arr 1 (b.1.map Q6)),(607,.var (Qb b.2))] (.own 600 b.1.length),.n 2,.O 5 (.var [.own 15 b.1.length,.sl 11 (a.2.Items.map Qc),.I a.2.Next,.I a.2.Now]),.n 5,.cm (.fn) [(607,8)] [(18,600),(8,607)] [] [.d,.d] [(600,.arr 11 (c.1.map Qc)),(607,.var (Qb c.2))] (.own 600 c.1.length),.n 2,.O 5 (.var [.own 15 b.1.length,.own 18 c.1.length,.I a.2.Next,.I a.2.Now]),.n 6,.frz 15 (b.1.map Q6) [15,21] [5],.frz 18 (c.1.map Qc) [18,21] [5],.cm (.fn) [(607,8)] [(8,607)] [] [.d,.d] [(607,.var (Qb c.2))] (.tup [.agg (QX j.2),.I j.1]),.n 3,.O 2 (.var (QX j.2)),.n 4,.K [2,3] [2]] rfl ⟨⟨⟨⟨⟨⟨⟨⟨⟨⟨⟨tt_,rfl⟩,(fun σ l m hf=>Stp.buildAny rfl rfl (Qw hC.n rfl) (Qm.es rfl) Qhr rfl (by decide) (by decide) (Qby l rfl) rfl rfl (hf rfl))⟩,(Qfg _ _ _ f)⟩,(QfM _ g)⟩,rfl⟩,(QfC _ i)⟩,rfl⟩,⟨⟨⟨tt_,(Qaz Qk)⟩,⟨(Qaz Qk),⟨tt_,tt_⟩⟩⟩,⟨(Qaz Qk),⟨tt_,tt_⟩⟩⟩⟩,⟨⟨⟨tt_,(Qaz Qk)⟩,⟨(Qaz Qk),tt_⟩⟩,⟨(Qaz Qk),tt_⟩⟩⟩,(Qfj _ _ k)⟩,rfl⟩ ?_
 cases h
 exact AK.done (ex_ [_,_] (an_ (an_ (ex_ _ (ex_ _ (an_ rfl (an_ rfl (Or.inl (an_ (Qm.ag rfl) (an_ (Qm.sz rfl) rfl))))))) (an_ rfl tt_)) (Qau tt_)))
def QgP (a:Qi)(b:Int):Option Bool:=
 some (a.Id==b)
theorem Qih (c a){r}(h:QgP c a=some r):Qh prog 43 [.agg (Qc c),.loc 607 0 0] [(607,.var (Qo a))] (Qp (.b r) [(607,.var (Qo a))]):=by
 refine Qh.walk 8 func43 rfl rfl rfl fun C hC=>?_
 refine tg_ hC [.n 16] rfl ?_
 cases h
 exact d1_ rfl rfl ⟨rfl,tt_⟩
def QaD (c:(List Qi))(d:Int)(a:Int):Option (Int⊕(Int⊕Unit)):=
 bif (decide (a<(c.length:Int)))then
 (idx c a).bind fun e=>
 (QgP e d).bind fun b=>
 bif b then
 some (.inr (.inl a))
 else
 some (.inl (w64 (a+1)))
 else
 some (.inr (.inr ()))
def QaE (a:Int):Option Int:=
 some a
def QaF : Option Int:=
 some (-1)
def QaT (a:(List Qi))(b:Int):Option Int:=
 (Q1 (fun st=>QaD a b st) 0).bind (Sum.elim (fun q=>QaE q) (fun q=>QaF))
theorem Qb8 (g c){r}(h:QaT g c=some r):Qh prog 37 [.sl 11 (g.map Qc),.clo (.func 43) [] [.loc 607 0 0]] [(607,.var (Qo c))] (Qp (.I r) [(607,.var (Qo c))]):=by
 refine Qh.walk 19 func37 rfl rfl rfl fun C hC=>?_
 refine Qa hC [.n 9,.o (.ln g.length),.n 4,.K [0,1,7,8] [607]] rfl ⟨tt_,Qk⟩ ?_
 obtain⟨k,i,h⟩:=Qe h
 refine AK.loop (body:=(fun st=>QaD g c st)) (fun st σ=>σ=⟨[(0,.sl 11 (g.map Qc)),(1,.clo (.func 43) [] [.loc 607 0 0]),(7,.I (g.length:Int)),(8,.I st)],[(607,.var (Qo c))]⟩) (Sum.elim (fun q e σ=>e=.ret∧σ=⟨[(4,.I q)],[(607,.var (Qo c))]⟩) (fun q e σ=>e=.exit 0∧σ=⟨[],[(607,.var (Qo c))]⟩)) i rfl ?_ ?_
 ·rintro t o σ rfl h
  refine tg_ hC [.n 6] rfl ?_
  rcases QO h with⟨f,h⟩|⟨f,h⟩
  ·obtain⟨p,l,h⟩:=Qe h
   obtain⟨m,j,h⟩:=Qe h
   refine Qa hC [.T,.n 15,.o (.row (Qc p)),.v .no [] (.agg (Qc p)),.cm (.clo) [(607,607)] [(607,607)] [] [.d,.d] [(607,.var (Qo c))] (.b m),.n 2] rfl ⟨⟨⟨⟨tt_,f⟩,(Qa5 l)⟩,rfl⟩,(Qih _ _ j)⟩ ?_
   refine bg_ h (fun a h=>Qa hC [.T,.n 9,.K [4] [607]] rfl ⟨tt_,a⟩ ?_) fun a h=>Qa hC [.F,.n 7,.K [0,1,7,8] [607]] rfl ⟨tt_,a⟩ ?_
   ·cases h
    exact Qhg rfl (an_ rfl rfl)
   cases h
   exact QaU rfl rfl
  refine Qa hC [.F,.n 2,.K [] [607]] rfl ⟨tt_,f⟩ ?_
  cases h
  exact QaN rfl (an_ rfl rfl)
 rcases k with(s | _)
 ·replace h:QaE s=some r:=h
  rintro e σ ⟨rfl,rfl⟩
  refine tg_ hC [.n 2] rfl ?_
  cases h
  exact d1_ rfl rfl ⟨rfl,tt_⟩
 replace h:QaF=some r:=h
 rintro e σ ⟨rfl,rfl⟩
 refine tg_ hC [.n 8] rfl ?_
 cases h
 exact d1_ rfl rfl ⟨rfl,tt_⟩
def QfD (b:(List Qi))(a:Int):Option Int:=
 (QaT b a).bind fun c=>
 some c
theorem Qf5 (c a){r}(h:QfD c a=some r):Qh prog 16 [.sl 11 (c.map Qc),.I a] [] (Qp (.I r) []):=by
 refine Qh.walk 8 func16 rfl rfl rfl fun C hC=>?_
 obtain⟨e,b,h⟩:=Qe h
 refine Qa hC [.n 10,.cm (.fn) [(607,3)] [(3,607)] [] [.d,.d] [(607,.var (Qo a))] (.I e),.n 4] rfl ⟨tt_,(Qb8 _ _ b)⟩ ?_
 cases h
 exact d1_ rfl rfl tt_
def Qip  : Option ((List (Int×(Option Nat)))×(List Qf)):=
 some (([]:(List (Int×(Option Nat)))),([]:List Qf))
theorem Qjo (gA:Nat→Nat)  {r:((List (Int×(Option Nat)))×(List Qf))}(h:Qip  = some r):Qh prog 44 [] [] (Qp (.loc 3 0 0) [(1,.map (QA V.I (QE gA) r.1)),(3,.var [.lit (.slice none 0 0),.map 1]),(601,.tbl gA 3 (r.2.map Qg))]):=by
 refine Qh.walk 4 func44 rfl rfl rfl fun C hC=>?_
 refine tg_ hC [.n 7] rfl ?_
 refine AK.newTbl 601 3 gA rfl rfl ?_
 refine Qa hC [.O 601 (.tbl gA 3 (([]:List Qf).map Qg)),.n 1,.O 1 (.map (QA V.I (QE gA) ([]:(List (Int×(Option Nat)))))),.v .no [] (.agg [.lit (.slice none 0 0),.map 1]),.n 5] rfl ⟨⟨⟨tt_,rfl⟩,rfl⟩,rfl⟩ ?_
 cases h
 exact d1_ rfl rfl ⟨rfl,rfl,rfl,tt_⟩
def Qc9 (a:(List (Option Nat)))(b:(List (Int×(Option Nat))))(c:(List Qf)):Option Int:=
 some (a.length:Int)
theorem Qec (gA:Nat→Nat)(a:(List (Option Nat)))(b:(List (Int×(Option Nat))))(c:(List Qf)){r:Int}(h:Qc9 a b c=some r):Qh prog 84 [.loc 607 0 0] [(607,.var [.own 605 a.length,.map 608]),(605,.arr 1 (a.map (Qx gA))),(608,.map (QA V.I (QE gA) b)),(609,.tbl gA 3 (c.map Qg))] (Qp (.I r) [(605,.arr 1 (a.map (Qx gA))),(607,.var [.own 605 a.length,.map 608]),(608,.map (QA V.I (QE gA) b)),(609,.tbl gA 3 (c.map Qg))]):=by
 refine Qh.walk 8 func84 rfl rfl rfl fun C hC=>?_
 refine tg_ hC [.n 16] rfl ?_
 cases h
 exact d1_ rfl rfl ⟨rfl,rfl,rfl,rfl,tt_⟩
def Qed (a:(List (Option Nat)))(f:(List (Int×(Option Nat))))(b:(Option Nat))(c:(List Qf)):Option ((List (Option Nat))×(List Qf)):=
 (b).bind fun d=>
 (c[d]?).bind fun e=>
 (chk (decide (a.length+([b]:List (Option Nat)).length≤4294967296))).bind fun _=>
 some ((a++([b]:List (Option Nat))),(c.set d (Qf.mk e.id e.at_ (a.length:Int))))
theorem QfN (gA:Nat→Nat)(a:(List (Option Nat)))(d:(List (Int×(Option Nat))))(c:(Option Nat))(e:(List Qf)){r:((List (Option Nat))×(List Qf))}(h:Qed a d c e=some r):Qh prog 128 [.loc 607 0 0,.ifc 116 (QE gA c)] [(607,.var [.own 605 a.length,.map 608]),(605,.arr 1 (a.map (Qx gA))),(608,.map (QA V.I (QE gA) d)),(609,.tbl gA 3 (e.map Qg))] (Qp (.tup []) [(605,.arr 1 (r.1.map (Qx gA))),(607,.var [.own 605 r.1.length,.map 608]),(608,.map (QA V.I (QE gA) d)),(609,.tbl gA 3 (r.2.map Qg))]):=by
 refine Qh.walk 22 func128 rfl rfl rfl fun C hC=>?_
 obtain⟨f,g,h⟩:=Qe h
 obtain⟨l,i,h⟩:=Qe h
 obtain⟨j,h⟩:=QbU h
 refine Qa hC [.n 14,.o (.any (Qam gA 0 f) none),.o (.any (Qam gA 2 f) none),.x (fun σ=>σ.set 609 (.tbl gA 3 ((e.set f (Qf.mk l.id l.at_ (a.length:Int))).map Qg))),.n 8,.v (.bd []) [] (.sl 1 (([c]:List (Option Nat)).map (Qx gA))),.app ((a++([c]:List (Option Nat))).map (Qx gA)) (a++([c]:List (Option Nat))).length,.n 2,.O 607 (.var [.own 605 (a++([c]:List (Option Nat))).length,.map 608]),.n 1,.K [] [605,607,608,609]] rfl ⟨⟨⟨⟨⟨⟨tt_,(fun σ k m _=>Stp.nilCheckP rfl rfl (Qw hC.n rfl) (k _ _ rfl) g)⟩,(fun σ k m _=>Stp.fieldP rfl rfl (Qw hC.n rfl) (k _ _ rfl) (Qm.fo rfl rfl) rfl)⟩,(Stp.storeP (b:=609) rfl rfl rfl rfl (QK i) rfl rfl rfl rfl (Qm.sz rfl) (QhM rfl))⟩,rfl⟩,⟨Qk,Qdb j Qk,Qb2,QeD Qk⟩⟩,rfl⟩ ?_
 cases h
 refine AK.done ?_
 exact ex_ [] (an_ tt_ (Qau ⟨rfl,rfl,rfl,rfl,tt_⟩))
def QcB (a:(List (Option Nat)))(b:(List Qf)):Option Int:=
 some (a.length:Int)
theorem Qdm (gA:Nat→Nat)(a:(List (Option Nat)))(b:(List Qf)){r:Int}(h:QcB a b=some r):Qh prog 124 [.own 607 a.length] [(607,.arr 1 (a.map (Qx gA))),(608,.tbl gA 3 (b.map Qg))] (Qp (.I r) [(607,.arr 1 (a.map (Qx gA))),(608,.tbl gA 3 (b.map Qg))]):=by
 refine Qh.walk 5 func124 rfl rfl rfl fun C hC=>?_
 refine tg_ hC [.n 13] rfl ?_
 cases h
 exact d1_ rfl rfl ⟨rfl,rfl,tt_⟩
def QfO (a:(List (Option Nat)))(c:Int)(b:(List Qf))(d:Int):Option Bool:=
 (idx a c).bind fun u=>
 (u).bind fun v=>
 (b[v]?).bind fun e=>
 (idx a d).bind fun f=>
 (f).bind fun g=>
 (b[g]?).bind fun h=>
 bif (decide (e.at_<h.at_))then
 some true
 else
 (idx a c).bind fun i=>
 (i).bind fun j=>
 (b[j]?).bind fun k=>
 (idx a d).bind fun l=>
 (l).bind fun m=>
 (b[m]?).bind fun n=>
 bif (k.at_==n.at_)then
 (idx a c).bind fun o=>
 (o).bind fun p=>
 (b[p]?).bind fun q=>
 (idx a d).bind fun r=>
 (r).bind fun s=>
 (b[s]?).bind fun t=>
 some (decide (q.id<t.id))
 else
 some false
def QbH (a:Bool):Option Bool:=
 some a
def Qbn (a:(List (Option Nat)))(b:Int)(c:Int)(d:(List Qf)):Option Bool:=
 (QfO a b d c).bind (fun e=>QbH e)
theorem QbI (gA:Nat→Nat)(H:(List (Option Nat)))(i2:Int)(k3:Int)(Y:(List Qf)){r:Bool}(h:Qbn H i2 k3 Y=some r):Qh prog 125 [.own 607 H.length,.I i2,.I k3] [(607,.arr 1 (H.map (Qx gA))),(608,.tbl gA 3 (Y.map Qg))] (Qp (.b r) [(607,.arr 1 (H.map (Qx gA))),(608,.tbl gA 3 (Y.map Qg))]):=by
 refine Qh.walk 56 func125 rfl rfl rfl fun C hC=>?_
 refine tg_ hC [.n 6] rfl ?_
 obtain⟨Z,a0,h⟩:=Qe h
 replace h:QbH Z=some r:=h
 refine AK.meetX (fun σ=>σ=⟨[(6,.b Z)],[(607,.arr 1 (H.map (Qx gA))),(608,.tbl gA 3 (Y.map Qg))]⟩) ?_ ?_
 ·replace h:=a0
  obtain⟨e8,j,h⟩:=Qe h
  obtain⟨G,B,h⟩:=Qe h
  obtain⟨D,l,h⟩:=Qe h
  obtain⟨E,e,h⟩:=Qe h
  obtain⟨k,o,h⟩:=Qe h
  obtain⟨F,p,h⟩:=Qe h
  refine tg_ hC [.K [0,1,2,6] [607,608]] rfl ?_
  rcases QO h with⟨f,h⟩|⟨f,h⟩
  ·refine AK.draw2 Qm hC mixed [.N,.N,.N,.a (.row ((Qx gA) e8)) none false,.a (.any (Qam gA 0 G) none) none false,.a (.any (Qam gA 1 G) none) none false,.a (.any (.I D.at_) none) none false,.N,.N,.N,.a (.row ((Qx gA) E)) none false,.a (.any (Qam gA 0 k) none) none false,.a (.any (Qam gA 1 k) none) none false,.a (.any (.I F.at_) none) none false,.N,.a .no (some ([],.b true)) false,.N,.N,.N,.N,.N,.N,.N,.N,.N,.N,.N,.N,.N,.N,.N,.N,.N,.N,.N,.N,.N,.N,.N,.N,.N,.N,.N,.N,.N,.N,.N,.N,.N,.m .s] [] [] [6] [607,608] rfl rfl rfl ⟨⟨⟨⟨⟨⟨⟨⟨⟨⟨⟨tt_,(QaZ j rfl)⟩,(QK (Qba j).2)⟩,(fun σ c d _=>Stp.nilCheckP rfl rfl (Qw hC.n rfl) (c _ _ rfl) B)⟩,(fun σ c d _=>Stp.fieldP rfl rfl (Qw hC.n rfl) (c _ _ rfl) (Qm.fo rfl rfl) rfl)⟩,(fun σ c d _=>Stp.loadP (b:=608) rfl rfl (Qw hC.n rfl) (c _ _ rfl) (d _ _ rfl) (Qm.ag rfl) (QK l) rfl)⟩,(QaZ e rfl)⟩,(QK (Qba e).2)⟩,(fun σ c d _=>Stp.nilCheckP rfl rfl (Qw hC.n rfl) (c _ _ rfl) o)⟩,(fun σ c d _=>Stp.fieldP rfl rfl (Qw hC.n rfl) (c _ _ rfl) (Qm.fo rfl rfl) rfl)⟩,(fun σ c d _=>Stp.loadP (b:=608) rfl rfl (Qw hC.n rfl) (c _ _ rfl) (d _ _ rfl) (Qm.ag rfl) (QK p) rfl)⟩,(cb_ f)⟩ rfl (by kernel_rfl) rfl rfl rfl ?_
   refine tg_ hC [.K [6] [607,608]] rfl ?_
   cases h
   exact AK.met rfl
  obtain⟨J,g,h⟩:=Qe h
  obtain⟨t,v,h⟩:=Qe h
  obtain⟨L,w,h⟩:=Qe h
  obtain⟨M,i,h⟩:=Qe h
  obtain⟨u,x,h⟩:=Qe h
  obtain⟨O,y,h⟩:=Qe h
  rcases QO h with⟨q,h⟩|⟨q,h⟩
  ·obtain⟨a1,z,h⟩:=Qe h
   obtain⟨P,S,h⟩:=Qe h
   obtain⟨a2,T,h⟩:=Qe h
   obtain⟨a3,A,h⟩:=Qe h
   obtain⟨U,W,h⟩:=Qe h
   obtain⟨a4,X,h⟩:=Qe h
   refine AK.draw2 Qm hC mixed [.N,.N,.N,.a (.row ((Qx gA) e8)) none false,.a (.any (Qam gA 0 G) none) none false,.a (.any (Qam gA 1 G) none) none false,.a (.any (.I D.at_) none) none false,.N,.N,.N,.a (.row ((Qx gA) E)) none false,.a (.any (Qam gA 0 k) none) none false,.a (.any (Qam gA 1 k) none) none false,.a (.any (.I F.at_) none) none false,.N,.a .no (some ([],.b false)) false,.N,.N,.N,.a (.row ((Qx gA) J)) none false,.a (.any (Qam gA 0 t) none) none false,.a (.any (Qam gA 1 t) none) none false,.a (.any (.I L.at_) none) none false,.N,.N,.N,.a (.row ((Qx gA) M)) none false,.a (.any (Qam gA 0 u) none) none false,.a (.any (Qam gA 1 u) none) none false,.a (.any (.I O.at_) none) none false,.N,.a .no (some ([],.b true)) false,.N,.N,.N,.a (.row ((Qx gA) a1)) none false,.a (.any (Qam gA 0 P) none) none false,.a (.any (Qam gA 0 P) none) none false,.a (.any (.I a2.id) none) none false,.N,.N,.N,.a (.row ((Qx gA) a3)) none false,.a (.any (Qam gA 0 U) none) none false,.a (.any (Qam gA 0 U) none) none false,.a (.any (.I a4.id) none) none false,.N,.N,.N,.m .s] [] [] [6] [607,608] rfl rfl rfl ⟨⟨⟨⟨⟨⟨⟨⟨⟨⟨⟨⟨⟨⟨⟨⟨⟨⟨⟨⟨⟨⟨⟨⟨⟨⟨⟨⟨⟨⟨⟨⟨tt_,(QaZ j rfl)⟩,(QK (Qba j).2)⟩,(fun σ c d _=>Stp.nilCheckP rfl rfl (Qw hC.n rfl) (c _ _ rfl) B)⟩,(fun σ c d _=>Stp.fieldP rfl rfl (Qw hC.n rfl) (c _ _ rfl) (Qm.fo rfl rfl) rfl)⟩,(fun σ c d _=>Stp.loadP (b:=608) rfl rfl (Qw hC.n rfl) (c _ _ rfl) (d _ _ rfl) (Qm.ag rfl) (QK l) rfl)⟩,(QaZ e rfl)⟩,(QK (Qba e).2)⟩,(fun σ c d _=>Stp.nilCheckP rfl rfl (Qw hC.n rfl) (c _ _ rfl) o)⟩,(fun σ c d _=>Stp.fieldP rfl rfl (Qw hC.n rfl) (c _ _ rfl) (Qm.fo rfl rfl) rfl)⟩,(fun σ c d _=>Stp.loadP (b:=608) rfl rfl (Qw hC.n rfl) (c _ _ rfl) (d _ _ rfl) (Qm.ag rfl) (QK p) rfl)⟩,(cb_ f)⟩,(QaZ g rfl)⟩,(QK (Qba g).2)⟩,(fun σ c d _=>Stp.nilCheckP rfl rfl (Qw hC.n rfl) (c _ _ rfl) v)⟩,(fun σ c d _=>Stp.fieldP rfl rfl (Qw hC.n rfl) (c _ _ rfl) (Qm.fo rfl rfl) rfl)⟩,(fun σ c d _=>Stp.loadP (b:=608) rfl rfl (Qw hC.n rfl) (c _ _ rfl) (d _ _ rfl) (Qm.ag rfl) (QK w) rfl)⟩,(QaZ i rfl)⟩,(QK (Qba i).2)⟩,(fun σ c d _=>Stp.nilCheckP rfl rfl (Qw hC.n rfl) (c _ _ rfl) x)⟩,(fun σ c d _=>Stp.fieldP rfl rfl (Qw hC.n rfl) (c _ _ rfl) (Qm.fo rfl rfl) rfl)⟩,(fun σ c d _=>Stp.loadP (b:=608) rfl rfl (Qw hC.n rfl) (c _ _ rfl) (d _ _ rfl) (Qm.ag rfl) (QK y) rfl)⟩,(cb_ q)⟩,(QaZ z rfl)⟩,(QK (Qba z).2)⟩,(fun σ c d _=>Stp.nilCheckP rfl rfl (Qw hC.n rfl) (c _ _ rfl) S)⟩,(fun σ c d _=>Stp.fieldP rfl rfl (Qw hC.n rfl) (c _ _ rfl) (Qm.fo rfl rfl) rfl)⟩,(fun σ c d _=>Stp.loadP (b:=608) rfl rfl (Qw hC.n rfl) (c _ _ rfl) (d _ _ rfl) (Qm.ag rfl) (QK T) rfl)⟩,(QaZ A rfl)⟩,(QK (Qba A).2)⟩,(fun σ c d _=>Stp.nilCheckP rfl rfl (Qw hC.n rfl) (c _ _ rfl) W)⟩,(fun σ c d _=>Stp.fieldP rfl rfl (Qw hC.n rfl) (c _ _ rfl) (Qm.fo rfl rfl) rfl)⟩,(fun σ c d _=>Stp.loadP (b:=608) rfl rfl (Qw hC.n rfl) (c _ _ rfl) (d _ _ rfl) (Qm.ag rfl) (QK X) rfl)⟩ rfl (by kernel_rfl) rfl rfl rfl ?_
   refine tg_ hC [.K [6] [607,608]] rfl ?_
   cases h
   exact AK.met rfl
  refine AK.draw2 Qm hC mixed [.N,.N,.N,.a (.row ((Qx gA) e8)) none false,.a (.any (Qam gA 0 G) none) none false,.a (.any (Qam gA 1 G) none) none false,.a (.any (.I D.at_) none) none false,.N,.N,.N,.a (.row ((Qx gA) E)) none false,.a (.any (Qam gA 0 k) none) none false,.a (.any (Qam gA 1 k) none) none false,.a (.any (.I F.at_) none) none false,.N,.a .no (some ([],.b false)) false,.N,.N,.N,.a (.row ((Qx gA) J)) none false,.a (.any (Qam gA 0 t) none) none false,.a (.any (Qam gA 1 t) none) none false,.a (.any (.I L.at_) none) none false,.N,.N,.N,.a (.row ((Qx gA) M)) none false,.a (.any (Qam gA 0 u) none) none false,.a (.any (Qam gA 1 u) none) none false,.a (.any (.I O.at_) none) none false,.N,.a .no (some ([],.b false)) false,.N,.N,.N,.N,.N,.N,.N,.N,.N,.N,.N,.N,.N,.N,.N,.N,.N,.m .s] [] [] [6] [607,608] rfl rfl rfl ⟨⟨⟨⟨⟨⟨⟨⟨⟨⟨⟨⟨⟨⟨⟨⟨⟨⟨⟨⟨⟨⟨tt_,(QaZ j rfl)⟩,(QK (Qba j).2)⟩,(fun σ c d _=>Stp.nilCheckP rfl rfl (Qw hC.n rfl) (c _ _ rfl) B)⟩,(fun σ c d _=>Stp.fieldP rfl rfl (Qw hC.n rfl) (c _ _ rfl) (Qm.fo rfl rfl) rfl)⟩,(fun σ c d _=>Stp.loadP (b:=608) rfl rfl (Qw hC.n rfl) (c _ _ rfl) (d _ _ rfl) (Qm.ag rfl) (QK l) rfl)⟩,(QaZ e rfl)⟩,(QK (Qba e).2)⟩,(fun σ c d _=>Stp.nilCheckP rfl rfl (Qw hC.n rfl) (c _ _ rfl) o)⟩,(fun σ c d _=>Stp.fieldP rfl rfl (Qw hC.n rfl) (c _ _ rfl) (Qm.fo rfl rfl) rfl)⟩,(fun σ c d _=>Stp.loadP (b:=608) rfl rfl (Qw hC.n rfl) (c _ _ rfl) (d _ _ rfl) (Qm.ag rfl) (QK p) rfl)⟩,(cb_ f)⟩,(QaZ g rfl)⟩,(QK (Qba g).2)⟩,(fun σ c d _=>Stp.nilCheckP rfl rfl (Qw hC.n rfl) (c _ _ rfl) v)⟩,(fun σ c d _=>Stp.fieldP rfl rfl (Qw hC.n rfl) (c _ _ rfl) (Qm.fo rfl rfl) rfl)⟩,(fun σ c d _=>Stp.loadP (b:=608) rfl rfl (Qw hC.n rfl) (c _ _ rfl) (d _ _ rfl) (Qm.ag rfl) (QK w) rfl)⟩,(QaZ i rfl)⟩,(QK (Qba i).2)⟩,(fun σ c d _=>Stp.nilCheckP rfl rfl (Qw hC.n rfl) (c _ _ rfl) x)⟩,(fun σ c d _=>Stp.fieldP rfl rfl (Qw hC.n rfl) (c _ _ rfl) (Qm.fo rfl rfl) rfl)⟩,(fun σ c d _=>Stp.loadP (b:=608) rfl rfl (Qw hC.n rfl) (c _ _ rfl) (d _ _ rfl) (Qm.ag rfl) (QK y) rfl)⟩,(cb_ q)⟩ rfl (by kernel_rfl) rfl rfl rfl ?_
  refine tg_ hC [.K [6] [607,608]] rfl ?_
  cases h
  exact AK.met rfl
 rintro σ rfl
 replace h:QbH Z=some r:=h
 refine tg_ hC [.n 2] rfl ?_
 cases h
 exact d1_ rfl rfl ⟨rfl,rfl,tt_⟩
def Qbo (c:(List (Option Nat)))(a:Int)(d:Int)(i:(List Qf)):Option ((List (Option Nat))×(List Qf)):=
 (idx c d).bind fun h=>
 (idx c a).bind fun j=>
 (idx c a).bind fun n=>
 (idx (c.set a.toNat h) d).bind fun m=>
 (idx ((c.set a.toNat h).set d.toNat j) a).bind fun k=>
 (idx ((c.set a.toNat h).set d.toNat j) d).bind fun l=>
 (k).bind fun e=>
 (i[e]?).bind fun b=>
 (l).bind fun f=>
 ((i.set e (Qf.mk b.id b.at_ a))[f]?).bind fun g=>
 some (((c.set a.toNat h).set d.toNat j),((i.set e (Qf.mk b.id b.at_ a)).set f (Qf.mk g.id g.at_ d)))
theorem QbJ (gA:Nat→Nat)(o:(List (Option Nat)))(l:Int)(y:Int)(z:(List Qf)){r:((List (Option Nat))×(List Qf))}(h:Qbo o l y z=some r):Qh prog 126 [.own 607 o.length,.I l,.I y] [(607,.arr 1 (o.map (Qx gA))),(608,.tbl gA 3 (z.map Qg))] (Qp (.tup []) [(607,.arr 1 (r.1.map (Qx gA))),(608,.tbl gA 3 (r.2.map Qg))]):=by
 refine Qh.walk 34 func126 rfl rfl rfl fun C hC=>?_
 obtain⟨A,p,h⟩:=Qe h
 obtain⟨F,q,h⟩:=Qe h
 obtain⟨G,s,h⟩:=Qe h
 obtain⟨B,f,h⟩:=Qe h
 refine tg_ hC [.n 1,.K [0,1,2] [607,608]] rfl ?_
 refine AK.draw2 Qm hC mixed [.N,.N,.a .no none true,.a .no none true,.N,.N,.N,.a (.row ((Qx gA) A)) none false,.N,.N,.N,.a (.row ((Qx gA) F)) none false,.N,.m (.st ((Qx gA) G) ((o.set l.toNat A).map (Qx gA))),.N,.m (.st ((Qx gA) B) (((o.set l.toNat A).set y.toNat F).map (Qx gA)))] [0,1,2] [608] [0,1,2] [607,608] rfl rfl rfl ⟨⟨⟨⟨⟨⟨⟨⟨tt_,(QaZ p rfl)⟩,(QK (Qba p).2)⟩,(QaZ q rfl)⟩,(QK (Qba q).2)⟩,(QaZ s rfl)⟩,⟨(QK (Qba s).2),QhM rfl⟩⟩,(QaZ f (by simp))⟩,⟨(QK (Qba f).2),QhM rfl⟩⟩ rfl (by kernel_rfl) rfl rfl rfl ?_
 obtain⟨D,g,h⟩:=Qe h
 obtain⟨E,i,h⟩:=Qe h
 obtain⟨d,t,h⟩:=Qe h
 obtain⟨e,u,h⟩:=Qe h
 obtain⟨j,v,h⟩:=Qe h
 obtain⟨w,x,h⟩:=Qe h
 refine tg_ hC [.n 1,.K [0,1,2] [607,608]] rfl ?_
 refine AK.draw2 Qm hC mixed [.N,.N,.N,.a (.row ((Qx gA) D)) none false,.N,.N,.N,.a (.row ((Qx gA) E)) none false,.N,.a .no none true,.a (.any (Qam gA 0 d) none) none false,.a (.any (Qam gA 2 d) none) none false,.m (.any ⟨[],[(608,.tbl gA 3 ((z.set d (Qf.mk e.id e.at_ l)).map Qg))],none⟩),.a (.any (Qam gA 0 j) none) none false,.a (.any (Qam gA 2 j) none) none false,.m (.any ⟨[],[(608,.tbl gA 3 (((z.set d (Qf.mk e.id e.at_ l)).set j (Qf.mk w.id w.at_ y)).map Qg))],none⟩)] [0,1,2] [607] [] [607,608] rfl rfl rfl ⟨⟨⟨⟨⟨⟨⟨⟨⟨⟨tt_,(QaZ g (by simp))⟩,(QK (Qba g).2)⟩,(QaZ i (by simp))⟩,(QK (Qba i).2)⟩,(fun σ c k _=>Stp.nilCheckP rfl rfl (Qw hC.n rfl) (c _ _ rfl) t)⟩,(fun σ c k _=>Stp.fieldP rfl rfl (Qw hC.n rfl) (c _ _ rfl) (Qm.fo rfl rfl) rfl)⟩,(fun σ c k=>Stp.storeP (b:=608) rfl rfl (c _ _ rfl) (k _ _ rfl) (QK u) rfl (c _ _ rfl) rfl rfl (Qm.sz rfl) (QhM rfl))⟩,(fun σ c k _=>Stp.nilCheckP rfl rfl (Qw hC.n rfl) (c _ _ rfl) v)⟩,(fun σ c k _=>Stp.fieldP rfl rfl (Qw hC.n rfl) (c _ _ rfl) (Qm.fo rfl rfl) rfl)⟩,(fun σ c k=>Stp.storeP (b:=608) rfl rfl (c _ _ rfl) (k _ _ rfl) (QK x) rfl (c _ _ rfl) rfl rfl (Qm.sz rfl) (QhM rfl))⟩ rfl (by kernel_rfl) rfl rfl rfl ?_
 refine tg_ hC [.K [] [607,608]] rfl ?_
 cases h
 refine AK.done ?_
 exact ex_ [] (an_ tt_ (Qau ⟨rfl,rfl,tt_⟩))
def Qgu (a:Int)(b:(List (Option Nat)))(d:(List Qf)):Option Bool:=
 bif ((w64 (Int.tdiv (w64 (a-1)) 2))==a)then
 some true
 else
 (Qbn b a (w64 (Int.tdiv (w64 (a-1)) 2)) d).bind fun c=>
 some (!c)
def QbV (e:(List Qf))(a:(List (Option Nat)))(c:Int)(d:Bool):Option ((Int×(List Qf)×(List (Option Nat)))⊕((List Qf)×(List (Option Nat)))):=
 bif d then
 some (.inr (e,a))
 else
 (Qbo a (w64 (Int.tdiv (w64 (c-1)) 2)) c e).bind fun b=>
 (chk (decide (b.1.length=a.length))).bind fun _=>
 some (.inl ((w64 (Int.tdiv (w64 (c-1)) 2)),b.2,b.1))
def Qdn (c:Int)(d:(List Qf))(a:(List (Option Nat))):Option ((Int×(List Qf)×(List (Option Nat)))⊕((List Qf)×(List (Option Nat)))):=
 (Qgu c a d).bind (fun b=>QbV d a c b)
def Qdo (a:(List Qf))(b:(List (Option Nat))):Option ((List (Option Nat))×(List Qf)):=
 some (b,a)
def Qeq (a:(List (Option Nat)))(d:(List (Int×(Option Nat))))(b:Int)(c:(List Qf)):Option ((List (Option Nat))×(List Qf)):=
 (Q1 (fun st=>Qdn st.1 st.2.1 st.2.2) (b,c,a)).bind (fun q=>Qdo q.1 q.2)
theorem Qgv (gA:Nat→Nat)(v:(List (Option Nat)))(j:(List (Int×(Option Nat))))(A:Int)(B:(List Qf)){r:((List (Option Nat))×(List Qf))}(h:Qeq v j A B=some r):Qh prog 104 [.ifc 120 (.loc 607 0 0),.I A] [(607,.var [.own 605 v.length,.map 608]),(605,.arr 1 (v.map (Qx gA))),(608,.map (QA V.I (QE gA) j)),(609,.tbl gA 3 (B.map Qg))] (Qp (.tup []) [(605,.arr 1 (r.1.map (Qx gA))),(607,.var [.own 605 r.1.length,.map 608]),(608,.map (QA V.I (QE gA) j)),(609,.tbl gA 3 (r.2.map Qg))]):=by
 refine Qh.walk 23 func104 rfl rfl rfl fun C hC=>?_
 refine tg_ hC [.n 1,.K [0,1] [605,607,608,609]] rfl ?_
 obtain⟨w,k,h⟩:=Qe h
 refine AK.loop (body:=(fun st=>Qdn st.1 st.2.1 st.2.2)) (fun st σ=>σ=⟨[(0,.ifc 120 (.loc 607 0 0)),(1,.I st.1)],[(605,.arr 1 (st.2.2.map (Qx gA))),(607,.var [.own 605 st.2.2.length,.map 608]),(608,.map (QA V.I (QE gA) j)),(609,.tbl gA 3 (st.2.1.map Qg))]⟩) (fun q e σ=>e=.exit 0∧σ=⟨[],[(605,.arr 1 (q.2.map (Qx gA))),(607,.var [.own 605 q.2.length,.map 608]),(608,.map (QA V.I (QE gA) j)),(609,.tbl gA 3 (q.1.map Qg))]⟩) k rfl ?_ ?_
 ·rintro ⟨t,u,a⟩ o σ rfl h
  refine Qa hC [.n 11] rfl ⟨tt_,(by decide)⟩ ?_
  obtain⟨g,l,h⟩:=Qe h
  replace h:QbV u a t g=some o:=h
  refine AK.meetX (fun σ=>σ=⟨[(0,.ifc 120 (.loc 607 0 0)),(1,.I t),(4,.I (w64 (Int.tdiv (w64 (t-1)) 2))),(17,.b g)],[(605,.arr 1 (a.map (Qx gA))),(607,.var [.own 605 a.length,.map 608]),(608,.map (QA V.I (QE gA) j)),(609,.tbl gA 3 (u.map Qg))]⟩) ?_ ?_
  ·replace h:=l
   refine tg_ hC [.n 5] rfl ?_
   rcases QO h with⟨c,h⟩|⟨c,h⟩
   ·refine Qa hC [.S 11 (.b true),.n 7,.K [0,1,4,17] [605,607,608,609]] rfl (tc_ c) ?_
    cases h
    exact AK.met rfl
   obtain⟨x,m,h⟩:=Qe h
   refine Qa hC [.S 11 (.b false),.n 3,.cm (.mv 125 113) [(607,605),(608,609)] [(605,607),(609,608)] [] [.d,.d,.d] [(607,.arr 1 (a.map (Qx gA))),(608,.tbl gA 3 (u.map Qg))] (.b x),.n 3,.K [0,1,4,17] [605,607,608,609]] rfl ⟨⟨(tc_ c),Qgp⟩,(QbI gA _ _ _ _ m)⟩ ?_
   cases h
   exact AK.met rfl
  rintro σ rfl
  replace h:QbV u a t g=some o:=h
  refine tg_ hC [.n 1] rfl ?_
  rcases QO h with⟨f,h⟩|⟨f,h⟩
  ·refine Qa hC [.T,.n 3,.K [] [605,607,608,609]] rfl ⟨tt_,f⟩ ?_
   cases h
   exact QaN rfl (an_ rfl rfl)
  obtain⟨i,p,h⟩:=Qe h
  obtain⟨s,h⟩:=QbU h
  refine Qa hC [.F,.n 7,.cm (.mv 126 113) [(607,605),(608,609)] [(605,607),(609,608)] [] [.d,.d,.d] [(607,.arr 1 (i.1.map (Qx gA))),(608,.tbl gA 3 (i.2.map Qg))] (.tup []),.O 607 (.var [.own 605 i.1.length,.map 608]),.n 7,.K [0,1] [605,607,608,609]] rfl ⟨⟨⟨⟨tt_,f⟩,Qgq⟩,(QbJ gA _ _ _ _ p)⟩,(by simp [Qbd s])⟩ ?_
  cases h
  exact QaU rfl rfl
 obtain⟨y,z⟩:=w
 replace h:Qdo y z=some r:=h
 rintro e σ ⟨rfl,rfl⟩
 refine tg_ hC [.n 1,.K [] [605,607,608,609]] rfl ?_
 cases h
 refine AK.done ?_
 exact ex_ [] (an_ tt_ (Qau ⟨rfl,rfl,rfl,rfl,tt_⟩))
def QdM (d:(List (Option Nat)))(b:(List (Int×(Option Nat))))(e:(Option Nat))(f:(List Qf)):Option ((List (Option Nat))×(List Qf)):=
 (Qed d b e f).bind fun a=>
 (QcB a.1 a.2).bind fun g=>
 (Qeq a.1 b (w64 (g-1)) a.2).bind fun c=>
 some (c.1,c.2)
theorem QfE (gA:Nat→Nat)(c:(List (Option Nat)))(a:(List (Int×(Option Nat))))(j:(Option Nat))(k:(List Qf)){r:((List (Option Nat))×(List Qf))}(h:QdM c a j k=some r):Qh prog 85 [.ifc 120 (.loc 607 0 0),.ifc 116 (QE gA j)] [(607,.var [.own 605 c.length,.map 608]),(605,.arr 1 (c.map (Qx gA))),(608,.map (QA V.I (QE gA) a)),(609,.tbl gA 3 (k.map Qg))] (Qp (.tup []) [(605,.arr 1 (r.1.map (Qx gA))),(607,.var [.own 605 r.1.length,.map 608]),(608,.map (QA V.I (QE gA) a)),(609,.tbl gA 3 (r.2.map Qg))]):=by
 refine Qh.walk 12 func85 rfl rfl rfl fun C hC=>?_
 obtain⟨b,e,h⟩:=Qe h
 obtain⟨l,f,h⟩:=Qe h
 obtain⟨g,i,h⟩:=Qe h
 refine Qa hC [.n 4,.cm (.me 128) [(607,607),(605,605),(608,608),(609,609)] [(605,605),(607,607),(608,608),(609,609)] [605] [.d,.d] [(605,.arr 1 (b.1.map (Qx gA))),(607,.var [.own 605 b.1.length,.map 608]),(608,.map (QA V.I (QE gA) a)),(609,.tbl gA 3 (b.2.map Qg))] (.tup []),.n 5,.cm (.mv 124 113) [(607,605),(608,609)] [(605,607),(609,608)] [] [.d] [(607,.arr 1 (b.1.map (Qx gA))),(608,.tbl gA 3 (b.2.map Qg))] (.I l),.n 1,.cm (.fn) [(607,607),(605,605),(608,608),(609,609)] [(605,605),(607,607),(608,608),(609,609)] [605] [.d,.d] [(605,.arr 1 (g.1.map (Qx gA))),(607,.var [.own 605 g.1.length,.map 608]),(608,.map (QA V.I (QE gA) a)),(609,.tbl gA 3 (g.2.map Qg))] (.tup []),.n 1,.K [] [605,607,608,609]] rfl ⟨⟨⟨⟨⟨tt_,QkE⟩,(QfN gA _ _ _ _ e)⟩,Qi1⟩,(Qdm gA _ _ f)⟩,(Qgv gA _ _ _ _ i)⟩ ?_
 cases h
 refine AK.done ?_
 exact ex_ [] (an_ tt_ (Qau ⟨rfl,rfl,rfl,rfl,tt_⟩))
def Qee (d:(List (Option Nat)))(c:(List (Int×(Option Nat))))(a:Int)(at_4:Int)(b:(List Qf)):Option (Int×(List (Option Nat))×(List Qf)×(List (Int×(Option Nat)))):=
 bif ((Qbh c a).getD none).isSome then
 some (5,d,b,c)
 else
 (Qc9 d c b).bind fun f=>
 bif (f==4096)then
 some (2,d,b,c)
 else
 (chk (d.all (okP b.length))).bind fun _=>
 (chk (c.all (fun q=>okP b.length q.2))).bind fun _=>
 (QdM d (Qdy ltI c a (some b.length)) (some b.length) (b++[(Qf.mk a at_4 0)])).bind fun e=>
 some (0,e.1,e.2,(Qdy ltI c a (some b.length)))
theorem QfP (gA:Nat→Nat)(s:(List (Option Nat)))(i:(List (Int×(Option Nat))))(a:Int)(at_4:Int)(j:(List Qf)){r:(Int×(List (Option Nat))×(List Qf)×(List (Int×(Option Nat))))}(h:Qee s i a at_4 j=some r):Qh prog 45 [.loc 607 0 0,.I a,.I at_4] [(607,.var [.own 605 s.length,.map 608]),(605,.arr 1 (s.map (Qx gA))),(608,.map (QA V.I (QE gA) i)),(606,.tbl gA 3 (j.map Qg))] (fun v hs=>∃gA:Nat→Nat,True∧Qp (.I r.1) [(605,.arr 1 (r.2.1.map (Qx gA))),(606,.tbl gA 3 (r.2.2.1.map Qg)),(607,.var [.own 605 r.2.1.length,.map 608]),(608,.map (QA V.I (QE gA) r.2.2.2))] v hs):=by
 refine Qh.walk 37 func45 rfl rfl rfl fun C hC=>?_
 refine Qa hC [.n 14,.o (.any (QE gA ((Qbh i a).getD none)) none),.o (.any (.b ((Qbh i a).getD none).isSome) none),.n 3] rfl ⟨⟨tt_,(fun σ t D _=>Stp.lookup (e:=V.I) (f:=(QE gA)) (l:=i) (k:=a) (z:=none) rfl rfl (Qw hC.n rfl) (t _ _ rfl) (D _ _ rfl) (t _ _ rfl) Qkq Qkp QmW rfl)⟩,(fun σ t D _=>Stp.neqNilP rfl rfl (Qw hC.n rfl) (t _ _ rfl) (t _ _ rfl) QmV)⟩ ?_
 rcases QO h with⟨c,h⟩|⟨c,h⟩
 ·refine Qa hC [.T,.n 8,.K [6] [605,606,607,608]] rfl ⟨tt_,c⟩ ?_
  cases h
  exact AK.done (ex_ [_] (an_ (an_ rfl tt_) (ex_ _ (an_ tt_ (Qau ⟨rfl,rfl,rfl,rfl,tt_⟩)))))
 obtain⟨B,u,h⟩:=Qe h
 refine Qa hC [.F,.n 3,.cm (.fn) [(607,607),(605,605),(608,608),(609,606)] [(605,605),(607,607),(608,608),(606,609)] [605] [.d] [(605,.arr 1 (s.map (Qx gA))),(607,.var [.own 605 s.length,.map 608]),(608,.map (QA V.I (QE gA) i)),(609,.tbl gA 3 (j.map Qg))] (.I B),.n 4] rfl ⟨⟨tt_,c⟩,(Qec gA _ _ _ u)⟩ ?_
 rcases QO h with⟨g,h⟩|⟨g,h⟩
 ·refine Qa hC [.T,.n 8,.K [6] [605,606,607,608]] rfl ⟨tt_,g⟩ ?_
  cases h
  exact AK.done (ex_ [_] (an_ (an_ rfl tt_) (ex_ _ (an_ tt_ (Qau ⟨rfl,rfl,rfl,rfl,tt_⟩)))))
 obtain⟨w,h⟩:=QbU h
 obtain⟨y,h⟩:=QbU h
 refine Qa hC [.F,.n 7,.v .no [] (.agg (Qg (Qf.mk a at_4 0)))] rfl ⟨⟨tt_,g⟩,rfl⟩ ?_
 refine AK.boxP (b:=606) (n:=j.length) (rsN:=(j++[(Qf.mk a at_4 0)]).map Qg) rfl rfl rfl (Qw hC.n rfl) rfl rfl rfl rfl rfl rfl Qk (Qb2 (m:=[(Qf.mk a at_4 0)])) fun gA p=>?_
 obtain⟨q,A,h⟩:=Qe h
 refine Qa hC [.O 605 (.arr 1 (s.map (Qx gA))),.O 608 (.map (QA V.I (QE gA) i)),.n 11,.x (fun σ=>σ.set 608 (.map (QA V.I (QE gA) (Qdy ltI i a (some j.length))))),.n 10,.cm (.fn) [(607,607),(605,605),(608,608),(609,606)] [(605,605),(607,607),(608,608),(606,609)] [605] [.d,.d] [(605,.arr 1 (q.1.map (Qx gA))),(607,.var [.own 605 q.1.length,.map 608]),(608,.map (QA V.I (QE gA) (Qdy ltI i a (some j.length)))),(609,.tbl gA 3 (q.2.map Qg))] (.tup []),.n 8,.K [6] [605,606,607,608]] rfl ⟨⟨⟨⟨tt_,(congrArg (Ob.arr 1) (QmB p w))⟩,(congrArg Ob.map (QmC p y))⟩,(Stp.mapUpdate (e:=V.I) (f:=(QE gA)) (l:=i) (k:=a) (v:=(some j.length)) ltI rfl rfl rfl rfl rfl rfl Qkq Qkp rfl)⟩,(QfE gA _ _ _ _ A)⟩ ?_
 cases h
 exact AK.done (ex_ [_] (an_ (an_ rfl tt_) (ex_ _ (an_ tt_ (Qau ⟨rfl,rfl,rfl,rfl,tt_⟩)))))
def QcS (a:(List (Option Nat)))(j:(List (Int×(Option Nat))))(b:(List Qf)):Option (Int×Int×Bool):=
 (Qc9 a j b).bind fun c=>
 bif (c==0)then
 some (0,0,false)
 else
 (idx a 0).bind fun d=>
 (d).bind fun e=>
 (b[e]?).bind fun f=>
 (idx a 0).bind fun g=>
 (g).bind fun h=>
 (b[h]?).bind fun i=>
 some (f.id,i.at_,true)
theorem QdN (gA:Nat→Nat)(i:(List (Option Nat)))(v:(List (Int×(Option Nat))))(w:(List Qf)){r:(Int×Int×Bool)}(h:QcS i v w=some r):Qh prog 86 [.loc 607 0 0] [(607,.var [.own 605 i.length,.map 608]),(605,.arr 1 (i.map (Qx gA))),(608,.map (QA V.I (QE gA) v)),(609,.tbl gA 3 (w.map Qg))] (Qp (.tup [.I r.1,.I r.2.1,.b r.2.2]) [(605,.arr 1 (i.map (Qx gA))),(607,.var [.own 605 i.length,.map 608]),(608,.map (QA V.I (QE gA) v)),(609,.tbl gA 3 (w.map Qg))]):=by
 refine Qh.walk 26 func86 rfl rfl rfl fun C hC=>?_
 obtain⟨x,k,h⟩:=Qe h
 refine Qa hC [.n 11,.cm (.fn) [(607,607),(605,605),(608,608),(609,609)] [(605,605),(607,607),(608,608),(609,609)] [605] [.d] [(605,.arr 1 (i.map (Qx gA))),(607,.var [.own 605 i.length,.map 608]),(608,.map (QA V.I (QE gA) v)),(609,.tbl gA 3 (w.map Qg))] (.I x),.n 3] rfl ⟨tt_,(Qec gA _ _ _ k)⟩ ?_
 rcases QO h with⟨c,h⟩|⟨c,h⟩
 ·refine Qa hC [.T,.n 9,.K [2,3,4] [605,607,608,609]] rfl ⟨tt_,c⟩ ?_
  cases h
  exact AK.done (ex_ [_,_,_] (an_ (an_ rfl (an_ rfl (an_ rfl tt_))) (Qau ⟨rfl,rfl,rfl,rfl,tt_⟩)))
 obtain⟨y,f,h⟩:=Qe h
 obtain⟨l,o,h⟩:=Qe h
 obtain⟨z,p,h⟩:=Qe h
 obtain⟨A,g,h⟩:=Qe h
 obtain⟨q,t,h⟩:=Qe h
 obtain⟨B,u,h⟩:=Qe h
 refine Qa hC [.F,.n 3,.K [0,2,3,4] [605,607,608,609]] rfl ⟨tt_,c⟩ ?_
 refine AK.draw2 Qm hC mixed [.N,.N,.N,.N,.N,.a (.row ((Qx gA) y)) none false,.a (.any (Qam gA 0 l) none) none false,.a (.any (Qam gA 0 l) none) none false,.a (.any (.I z.id) none) none false,.a .no none true,.a .no none true,.a .no none true,.a .no none true,.a .no none true,.a (.row ((Qx gA) A)) none true,.a (.any (Qam gA 0 q) none) none true,.a (.any (Qam gA 1 q) none) none true,.a (.any (.I B.at_) none) none true,.m .s,.m .s,.m .s] [0,4] [605,607,608,609] [2,3,4] [605,607,608,609] rfl rfl rfl ⟨⟨⟨⟨⟨⟨⟨⟨⟨⟨tt_,(QaZ f rfl)⟩,(QK (Qba f).2)⟩,(fun σ e j _=>Stp.nilCheckP rfl rfl (Qw hC.n rfl) (e _ _ rfl) o)⟩,(fun σ e j _=>Stp.fieldP rfl rfl (Qw hC.n rfl) (e _ _ rfl) (Qm.fo rfl rfl) rfl)⟩,(fun σ e j _=>Stp.loadP (b:=609) rfl rfl (Qw hC.n rfl) (e _ _ rfl) (j _ _ rfl) (Qm.ag rfl) (QK p) rfl)⟩,(QaZ g rfl)⟩,(QK (Qba g).2)⟩,(fun σ e j _=>Stp.nilCheckP rfl rfl (Qw hC.n rfl) (e _ _ rfl) t)⟩,(fun σ e j _=>Stp.fieldP rfl rfl (Qw hC.n rfl) (e _ _ rfl) (Qm.fo rfl rfl) rfl)⟩,(fun σ e j _=>Stp.loadP (b:=609) rfl rfl (Qw hC.n rfl) (e _ _ rfl) (j _ _ rfl) (Qm.ag rfl) (QK u) rfl)⟩ rfl (by kernel_rfl) rfl rfl rfl ?_
 refine tg_ hC [.n 2,.K [2,3,4] [605,607,608,609]] rfl ?_
 cases h
 exact AK.done (ex_ [_,_,_] (an_ (an_ rfl (an_ rfl (an_ rfl tt_))) (Qau ⟨rfl,rfl,rfl,rfl,tt_⟩)))
def QbA (a:(List (Option Nat)))(b:Int)(c:(List Qf))(d:Int):Option ((Int×(List Qf)×(List (Option Nat)))⊕(Int×(List Qf)×(List (Option Nat)))):=
 (Qbn a d b c).bind fun f=>
 bif (!f)then
 some (.inr (b,c,a))
 else
 (Qbo a b d c).bind fun e=>
 (chk (decide (e.1.length=a.length))).bind fun _=>
 some (.inl (d,e.2,e.1))
def QfF (a:Int)(e:Int)(b:(List (Option Nat)))(c:(List Qf)):Option Bool:=
 bif (decide ((w64 ((w64 ((w64 (2*a))+1))+1))<e))then
 (Qbn b (w64 ((w64 ((w64 (2*a))+1))+1)) (w64 ((w64 (2*a))+1)) c).bind fun d=>
 some d
 else
 some false
def QbB (b:(List (Option Nat)))(a:Int)(c:(List Qf))(d:Bool):Option ((Int×(List Qf)×(List (Option Nat)))⊕(Int×(List Qf)×(List (Option Nat)))):=
 bif d then
 QbA b a c (w64 ((w64 ((w64 (2*a))+1))+1))
 else
 QbA b a c (w64 ((w64 (2*a))+1))
def QcT (e:Int)(a:Int)(b:(List Qf))(c:(List (Option Nat))):Option ((Int×(List Qf)×(List (Option Nat)))⊕(Int×(List Qf)×(List (Option Nat)))):=
 bif ((decide (e≤(w64 ((w64 (2*a))+1))))||(decide ((w64 ((w64 (2*a))+1))<0)))then
 some (.inr (a,b,c))
 else
 (QfF a e c b).bind (fun d=>QbB c a b d)
def QcU (d:Int)(a:Int)(b:(List Qf))(c:(List (Option Nat))):Option (Bool×(List (Option Nat))×(List Qf)):=
 some ((decide (d<a)),c,b)
def QdO (b:(List (Option Nat)))(e:(List (Int×(Option Nat))))(a:Int)(c:Int)(d:(List Qf)):Option (Bool×(List (Option Nat))×(List Qf)):=
 (Q1 (fun st=>QcT c st.1 st.2.1 st.2.2) (a,d,b)).bind (fun q=>QcU a q.1 q.2.1 q.2.2)
theorem QfG (gA:Nat→Nat)(D:(List (Option Nat)))(p:(List (Int×(Option Nat))))(s:Int)(i:Int)(N:(List Qf)){r:(Bool×(List (Option Nat))×(List Qf))}(h:QdO D p s i N=some r):Qh prog 105 [.ifc 120 (.loc 607 0 0),.I s,.I i] [(607,.var [.own 605 D.length,.map 608]),(605,.arr 1 (D.map (Qx gA))),(608,.map (QA V.I (QE gA) p)),(609,.tbl gA 3 (N.map Qg))] (Qp (.b r.1) [(605,.arr 1 (r.2.1.map (Qx gA))),(607,.var [.own 605 r.2.1.length,.map 608]),(608,.map (QA V.I (QE gA) p)),(609,.tbl gA 3 (r.2.2.map Qg))]):=by
 refine Qh.walk 48 func105 rfl rfl rfl fun C hC=>?_
 refine tg_ hC [.n 13,.K [0,1,2,7] [605,607,608,609]] rfl ?_
 obtain⟨E,w,h⟩:=Qe h
 refine AK.loop (body:=(fun st=>QcT i st.1 st.2.1 st.2.2)) (fun st σ=>σ=⟨[(0,.ifc 120 (.loc 607 0 0)),(1,.I s),(2,.I i),(7,.I st.1)],[(605,.arr 1 (st.2.2.map (Qx gA))),(607,.var [.own 605 st.2.2.length,.map 608]),(608,.map (QA V.I (QE gA) p)),(609,.tbl gA 3 (st.2.1.map Qg))]⟩) (fun q e σ=>e=.exit 0∧σ=⟨[(1,.I s),(7,.I q.1)],[(605,.arr 1 (q.2.2.map (Qx gA))),(607,.var [.own 605 q.2.2.length,.map 608]),(608,.map (QA V.I (QE gA) p)),(609,.tbl gA 3 (q.2.1.map Qg))]⟩) w rfl ?_ ?_
 ·rintro ⟨a,f,c⟩ o σ rfl h
  refine tg_ hC [.n 11] rfl ?_
  refine AK.meetX (fun σ=>σ=⟨[(0,.ifc 120 (.loc 607 0 0)),(1,.I s),(2,.I i),(7,.I a),(8,.I (w64 ((w64 (2*a))+1))),(21,.b ((decide (i≤(w64 ((w64 (2*a))+1))))||(decide ((w64 ((w64 (2*a))+1))<0))))],[(605,.arr 1 (c.map (Qx gA))),(607,.var [.own 605 c.length,.map 608]),(608,.map (QA V.I (QE gA) p)),(609,.tbl gA 3 (f.map Qg))]⟩) ?_ ?_
  ·refine tg_ hC [.n 5] rfl ?_
   rcases Qda (decide (i≤(w64 ((w64 (2*a))+1))))with g | g
   ·refine Qa hC [.S 18 (.b true),.n 4,.S 21 (.b ((decide (i≤(w64 ((w64 (2*a))+1))))||(decide ((w64 ((w64 (2*a))+1))<0)))),.K [0,1,2,7,8,21] [605,607,608,609]] rfl ⟨(tc_ g),(congrArg V.b (orT g rfl))⟩ ?_
    exact AK.met rfl
   refine Qa hC [.S 18 (.b false),.n 4,.S 21 (.b ((decide (i≤(w64 ((w64 (2*a))+1))))||(decide ((w64 ((w64 (2*a))+1))<0)))),.K [0,1,2,7,8,21] [605,607,608,609]] rfl ⟨(tc_ g),(congrArg V.b (orF g rfl))⟩ ?_
   exact AK.met rfl
  rintro σ rfl
  refine tg_ hC [.n 1] rfl ?_
  refine bg_ h (fun j h=>Qa hC [.T,.n 3,.K [1,7] [605,607,608,609]] rfl ⟨tt_,j⟩ ?_) fun j h=>Qa hC [.F,.n 8] rfl ⟨tt_,j⟩ ?_
  ·cases h
   exact QaN rfl (an_ rfl rfl)
  refine AK.meet (fun σ=>∃t:Int,σ=⟨[(0,.ifc 120 (.loc 607 0 0)),(1,.I s),(2,.I i),(7,.I a),(9,.I t)],[(605,.arr 1 (c.map (Qx gA))),(607,.var [.own 605 c.length,.map 608]),(608,.map (QA V.I (QE gA) p)),(609,.tbl gA 3 (f.map Qg))]⟩∧QbA c a f t=some o) ?_ ?_
  ·refine tg_ hC [.n 8] rfl ?_
   obtain⟨u,x,h⟩:=Qe h
   replace h:QbB c a f u=some o:=h
   refine AK.meetX (fun σ=>σ=⟨[(0,.ifc 120 (.loc 607 0 0)),(1,.I s),(2,.I i),(7,.I a),(9,.I (w64 ((w64 (2*a))+1))),(10,.I (w64 ((w64 ((w64 (2*a))+1))+1))),(33,.b u)],[(605,.arr 1 (c.map (Qx gA))),(607,.var [.own 605 c.length,.map 608]),(608,.map (QA V.I (QE gA) p)),(609,.tbl gA 3 (f.map Qg))]⟩) ?_ ?_
   ·replace h:=x
    refine tg_ hC [.n 5] rfl ?_
    rcases QO h with⟨k,h⟩|⟨k,h⟩
    ·obtain⟨G,y,h⟩:=Qe h
     refine Qa hC [.S 28 (.b true),.n 3,.cm (.mv 125 113) [(607,605),(608,609)] [(605,607),(609,608)] [] [.d,.d,.d] [(607,.arr 1 (c.map (Qx gA))),(608,.tbl gA 3 (f.map Qg))] (.b G),.n 2,.K [0,1,2,7,9,10,33] [605,607,608,609]] rfl ⟨⟨(tc_ k),Qgp⟩,(QbI gA _ _ _ _ y)⟩ ?_
     cases h
     exact AK.met rfl
    refine Qa hC [.S 28 (.b false),.n 6,.K [0,1,2,7,9,10,33] [605,607,608,609]] rfl (tc_ k) ?_
    cases h
    exact AK.met rfl
   rintro σ rfl
   replace h:QbB c a f u=some o:=h
   refine tg_ hC [.n 1] rfl ?_
   refine bg_ h (fun l h=>Qa hC [.T,.n 4,.K [0,1,2,7,9] [605,607,608,609]] rfl ⟨tt_,l⟩ ?_) fun l h=>Qa hC [.F,.n 1,.K [0,1,2,7,9] [605,607,608,609]] rfl ⟨tt_,l⟩ ?_
   ·exact AK.met (ex_ _ (an_ rfl h))
   exact AK.met (ex_ _ (an_ rfl h))
  rintro σ ⟨t,rfl,h⟩
  obtain⟨H,z,h⟩:=Qe h
  refine Qa hC [.n 6,.cm (.mv 125 113) [(607,605),(608,609)] [(605,607),(609,608)] [] [.d,.d,.d] [(607,.arr 1 (c.map (Qx gA))),(608,.tbl gA 3 (f.map Qg))] (.b H),.n 3] rfl ⟨⟨tt_,Qgp⟩,(QbI gA _ _ _ _ z)⟩ ?_
  rcases QO h with⟨m,h⟩|⟨m,h⟩
  ·refine Qa hC [.T,.n 3,.K [1,7] [605,607,608,609]] rfl ⟨tt_,m⟩ ?_
   cases h
   exact QaN rfl (an_ rfl rfl)
  obtain⟨v,A,h⟩:=Qe h
  obtain⟨B,h⟩:=QbU h
  refine Qa hC [.F,.n 7,.cm (.mv 126 113) [(607,605),(608,609)] [(605,607),(609,608)] [] [.d,.d,.d] [(607,.arr 1 (v.1.map (Qx gA))),(608,.tbl gA 3 (v.2.map Qg))] (.tup []),.O 607 (.var [.own 605 v.1.length,.map 608]),.n 7,.K [0,1,2,7] [605,607,608,609]] rfl ⟨⟨⟨⟨tt_,m⟩,Qgq⟩,(QbJ gA _ _ _ _ A)⟩,(by simp [Qbd B])⟩ ?_
  cases h
  exact QaU rfl rfl
 obtain⟨J,L,M⟩:=E
 replace h:QcU s J L M=some r:=h
 rintro e σ ⟨rfl,rfl⟩
 refine tg_ hC [.n 11] rfl ?_
 cases h
 exact d1_ rfl rfl ⟨rfl,rfl,rfl,rfl,tt_⟩
def Qer (a:(List (Option Nat)))(c:(List (Int×(Option Nat))))(d:(List Qf)):Option ((Option Nat)×(List (Option Nat))):=
 (idx a (w64 ((a.length:Int)-1))).bind fun b=>
 (chk (decide (0≤(w64 ((a.length:Int)-1)))&&decide ((w64 ((a.length:Int)-1)).toNat≤a.length))).bind fun _=>
 some (b,(a.take (w64 ((a.length:Int)-1)).toNat))
theorem Qgw (gA:Nat→Nat)(b:(List (Option Nat)))(e:(List (Int×(Option Nat))))(f:(List Qf)){r:((Option Nat)×(List (Option Nat)))}(h:Qer b e f=some r):Qh prog 127 [.loc 607 0 0] [(607,.var [.own 605 b.length,.map 608]),(605,.arr 1 (b.map (Qx gA))),(608,.map (QA V.I (QE gA) e)),(609,.tbl gA 3 (f.map Qg))] (Qp (.ifc 116 (QE gA r.1)) [(605,.arr 1 (r.2.map (Qx gA))),(607,.var [.own 605 r.2.length,.map 608]),(608,.map (QA V.I (QE gA) e)),(609,.tbl gA 3 (f.map Qg))]):=by
 refine Qh.walk 27 func127 rfl rfl rfl fun C hC=>?_
 obtain⟨j,d,h⟩:=Qe h
 refine tg_ hC [.n 6,.K [0] [605,607,608,609]] rfl ?_
 refine AK.draw2 Qm hC mixed [.N,.N,.N,.N,.N,.N,.N,.N,.N,.a (.row ((Qx gA) j)) none false,.N] [] [] [0,3] [605,607,608,609] rfl rfl rfl ⟨⟨tt_,(QaZ d rfl)⟩,(QK (Qba d).2)⟩ rfl (by kernel_rfl) rfl rfl rfl ?_
 obtain⟨c,h⟩:=QbU h
 refine tg_ hC [.n 2,.K [0,3] [605,607,608,609]] rfl ?_
 have g:(w64 ((b.length:Int)-1)).toNat=(b.take (w64 ((b.length:Int)-1)).toNat).length:=by rw [QgX,Nat.min_eq_left (Qbd (QiS c))]
 refine AK.draw2 Qm hC mixed [.a .no none true,.N,.N,.N,.N,.N,.N,.N,.N,.m (.any ⟨[],[(605,.arr 1 ((b.take (w64 ((b.length:Int)-1)).toNat).map (Qx gA)))],some (23,.own 605 (w64 ((b.length:Int)-1)).toNat)⟩),.N,.m .s] [0,3] [607,608,609] [3] [605,607,608,609] rfl rfl rfl ⟨tt_,(fun σ i k=>Stp.sliceO rfl rfl (Qw hC.n rfl) (i _ _ rfl) (k _ _ rfl) (Qm.es rfl) Bnd.no (Bnd.val (i _ _ rfl) (Qbd (QiR c)) rfl) (Qbd (QiS c)) (by simp))⟩ rfl (by kernel_rfl) rfl rfl rfl ?_
 refine Qa hC [.O 607 (.var [.own 605 (w64 ((b.length:Int)-1)).toNat,.map 608]),.n 9,.O 607 (.var [.own 605 (b.take (w64 ((b.length:Int)-1)).toNat).length,.map 608])] rfl ⟨⟨tt_,rfl⟩,(congrArg (fun n=>Ob.var [.own 605 n,.map 608]) (by rw [←g]))⟩ ?_
 cases h
 exact d1_ rfl rfl ⟨rfl,rfl,rfl,rfl,tt_⟩
def Qef (c:(List (Option Nat)))(e:(List (Int×(Option Nat))))(f:(List Qf)):Option ((Option Nat)×(List (Option Nat))×(List Qf)):=
 (QcB c f).bind fun g=>
 (Qbo c 0 (w64 (g-1)) f).bind fun d=>
 (chk (decide (d.1.length=c.length))).bind fun _=>
 (QdO d.1 e 0 (w64 (g-1)) d.2).bind fun a=>
 (Qer a.2.1 e a.2.2).bind fun b=>
 some (b.1,b.2,a.2.2)
theorem QfQ (gA:Nat→Nat)(i:(List (Option Nat)))(e:(List (Int×(Option Nat))))(j:(List Qf)){r:((Option Nat)×(List (Option Nat))×(List Qf))}(h:Qef i e j=some r):Qh prog 87 [.ifc 120 (.loc 607 0 0)] [(607,.var [.own 605 i.length,.map 608]),(605,.arr 1 (i.map (Qx gA))),(608,.map (QA V.I (QE gA) e)),(609,.tbl gA 3 (j.map Qg))] (Qp (.ifc 116 (QE gA r.1)) [(605,.arr 1 (r.2.1.map (Qx gA))),(607,.var [.own 605 r.2.1.length,.map 608]),(608,.map (QA V.I (QE gA) e)),(609,.tbl gA 3 (r.2.2.map Qg))]):=by
 refine Qh.walk 15 func87 rfl rfl rfl fun C hC=>?_
 obtain⟨p,k,h⟩:=Qe h
 obtain⟨l,m,h⟩:=Qe h
 obtain⟨o,h⟩:=QbU h
 obtain⟨a,f,h⟩:=Qe h
 obtain⟨c,g,h⟩:=Qe h
 refine Qa hC [.n 8,.cm (.mv 124 113) [(607,605),(608,609)] [(605,607),(609,608)] [] [.d] [(607,.arr 1 (i.map (Qx gA))),(608,.tbl gA 3 (j.map Qg))] (.I p),.n 8,.cm (.mv 126 113) [(607,605),(608,609)] [(605,607),(609,608)] [] [.d,.d,.d] [(607,.arr 1 (l.1.map (Qx gA))),(608,.tbl gA 3 (l.2.map Qg))] (.tup []),.O 607 (.var [.own 605 l.1.length,.map 608]),.n 6,.cm (.fn) [(607,607),(605,605),(608,608),(609,609)] [(605,605),(607,607),(608,608),(609,609)] [605] [.d,.d,.d] [(605,.arr 1 (a.2.1.map (Qx gA))),(607,.var [.own 605 a.2.1.length,.map 608]),(608,.map (QA V.I (QE gA) e)),(609,.tbl gA 3 (a.2.2.map Qg))] (.b a.1),.n 5,.cm (.me 127) [(607,607),(605,605),(608,608),(609,609)] [(605,605),(607,607),(608,608),(609,609)] [605] [.d] [(605,.arr 1 (c.2.map (Qx gA))),(607,.var [.own 605 c.2.length,.map 608]),(608,.map (QA V.I (QE gA) e)),(609,.tbl gA 3 (a.2.2.map Qg))] (.ifc 116 (QE gA c.1)),.n 4] rfl ⟨⟨⟨⟨⟨⟨⟨⟨tt_,Qi1⟩,(Qdm gA _ _ k)⟩,Qgq⟩,(QbJ gA _ _ _ _ m)⟩,(by simp [Qbd o])⟩,(QfG gA _ _ _ _ _ f)⟩,Qlm⟩,(Qgw gA _ _ _ g)⟩ ?_
 cases h
 exact d1_ rfl rfl ⟨rfl,rfl,rfl,rfl,tt_⟩
def Qeg (f:Int)(a:Int)(at_14:Int)(g:Bool)(d:(List Int))(b:(List (Int×(Option Nat))))(h:(List Qf))(i:(List (Option Nat))):Option ((Int×Int×Bool×(List Int)×(List (Int×(Option Nat)))×(List Qf)×(List (Option Nat)))⊕((List Int)×(List (Int×(Option Nat)))×(List Qf)×(List (Option Nat)))):=
 bif (g&&(decide (at_14≤f)))then
 (chk (decide (d.length+([a]:List Int).length≤4294967296))).bind fun _=>
 (Qef i b h).bind fun c=>
 (QcS c.2.1 (Qc8 b a) c.2.2).bind fun e=>
 some (.inl (e.1,e.2.1,e.2.2,(d++([a]:List Int)),(Qc8 b a),c.2.2,c.2.1))
 else
 some (.inr (d,b,h,i))
def Qeh (a:(List Int))(b:(List (Int×(Option Nat))))(c:(List Qf))(d:(List (Option Nat))):Option ((List Int)×(List (Option Nat))×(List (Int×(Option Nat)))×(List Qf)):=
 some (a,d,b,c)
def Qe3 (c:(List (Option Nat)))(d:(List (Int×(Option Nat))))(a:Int)(e:(List Qf)):Option ((List Int)×(List (Option Nat))×(List (Int×(Option Nat)))×(List Qf)):=
 (QcS c d e).bind fun b=>
 (Q1 (fun st=>Qeg a st.1 st.2.1 st.2.2.1 st.2.2.2.1 st.2.2.2.2.1 st.2.2.2.2.2.1 st.2.2.2.2.2.2) (b.1,b.2.1,b.2.2,([]:List Int),d,e,c)).bind (fun q=>Qeh q.1 q.2.1 q.2.2.1 q.2.2.2)
theorem Qhu (gA:Nat→Nat)(u:(List (Option Nat)))(D:(List (Int×(Option Nat))))(a:Int)(E:(List Qf)){r:((List Int)×(List (Option Nat))×(List (Int×(Option Nat)))×(List Qf))}(h:Qe3 u D a E=some r):Qh prog 46 [.loc 607 0 0,.I a] [(607,.var [.own 605 u.length,.map 608]),(605,.arr 1 (u.map (Qx gA))),(608,.map (QA V.I (QE gA) D)),(609,.tbl gA 3 (E.map Qg))] (Qp (.own 600 r.1.length) [(600,.arr 1 (r.1.map Qo)),(605,.arr 1 (r.2.1.map (Qx gA))),(607,.var [.own 605 r.2.1.length,.map 608]),(608,.map (QA V.I (QE gA) r.2.2.1)),(609,.tbl gA 3 (r.2.2.2.map Qg))]):=by
 refine Qh.walk 42 func46 rfl rfl rfl fun C hC=>?_
 obtain⟨G,H,h⟩:=Qe h
 refine Qa hC [.n 14,.cm (.fn) [(607,607),(605,605),(608,608),(609,609)] [(605,605),(607,607),(608,608),(609,609)] [605] [.d] [(605,.arr 1 (u.map (Qx gA))),(607,.var [.own 605 u.length,.map 608]),(608,.map (QA V.I (QE gA) D)),(609,.tbl gA 3 (E.map Qg))] (.tup [.I G.1,.I G.2.1,.b G.2.2]),.n 10,.adopt 5 27 1,.O 27 (.arr 1 (([]:List Int).map Qo)),.S 5 (.own 27 ([]:List Int).length),.K [0,1,5,6,7,8] [27,605,607,608,609]] rfl ⟨⟨⟨tt_,(QdN gA _ _ _ H)⟩,rfl⟩,(congrArg (fun n=>V.own 27 n) (by simp))⟩ ?_
 obtain⟨J,w,h⟩:=Qe h
 refine AK.loop (body:=(fun st=>Qeg a st.1 st.2.1 st.2.2.1 st.2.2.2.1 st.2.2.2.2.1 st.2.2.2.2.2.1 st.2.2.2.2.2.2)) (fun st σ=>σ=⟨[(0,.loc 607 0 0),(1,.I a),(5,.own 27 st.2.2.2.1.length),(6,.I st.1),(7,.I st.2.1),(8,.b st.2.2.1)],[(27,.arr 1 (st.2.2.2.1.map Qo)),(605,.arr 1 (st.2.2.2.2.2.2.map (Qx gA))),(607,.var [.own 605 st.2.2.2.2.2.2.length,.map 608]),(608,.map (QA V.I (QE gA) st.2.2.2.2.1)),(609,.tbl gA 3 (st.2.2.2.2.2.1.map Qg))]⟩) (fun q e σ=>e=.exit 0∧σ=⟨[(5,.own 27 q.1.length)],[(27,.arr 1 (q.1.map Qo)),(605,.arr 1 (q.2.2.2.map (Qx gA))),(607,.var [.own 605 q.2.2.2.length,.map 608]),(608,.map (QA V.I (QE gA) q.2.1)),(609,.tbl gA 3 (q.2.2.1.map Qg))]⟩) w rfl ?_ ?_
 ·rintro ⟨c,at_14,j,s,m,L,y⟩ o σ rfl h
  refine tg_ hC [.n 2] rfl ?_
  refine AK.meetX (fun σ=>σ=⟨[(0,.loc 607 0 0),(1,.I a),(5,.own 27 s.length),(6,.I c),(20,.b (j&&(decide (at_14≤a))))],[(27,.arr 1 (s.map Qo)),(605,.arr 1 (y.map (Qx gA))),(607,.var [.own 605 y.length,.map 608]),(608,.map (QA V.I (QE gA) m)),(609,.tbl gA 3 (L.map Qg))]⟩) ?_ ?_
  ·refine tg_ hC [.n 3] rfl ?_
   rcases Qda j with g | g
   ·refine Qa hC [.S 16 (.b true),.n 5,.S 20 (.b (j&&(decide (at_14≤a)))),.K [0,1,5,6,20] [27,605,607,608,609]] rfl ⟨(tc_ g),(congrArg V.b (Qis g rfl))⟩ ?_
    exact AK.met rfl
   refine Qa hC [.S 16 (.b false),.n 5,.S 20 (.b (j&&(decide (at_14≤a)))),.K [0,1,5,6,20] [27,605,607,608,609]] rfl ⟨(tc_ g),(congrArg V.b (Qit g rfl))⟩ ?_
   exact AK.met rfl
  rintro σ rfl
  refine tg_ hC [.n 1] rfl ?_
  rcases QO h with⟨p,h⟩|⟨p,h⟩
  ·obtain⟨z,h⟩:=QbU h
   obtain⟨i,A,h⟩:=Qe h
   obtain⟨t,B,h⟩:=Qe h
   refine Qa hC [.T,.n 8,.v (.bd []) [] (.sl 1 (([c]:List Int).map Qo)),.app ((s++([c]:List Int)).map Qo) (s++([c]:List Int)).length,.n 9,.cm (.fn) [(607,607),(605,605),(608,608),(609,609)] [(605,605),(607,607),(608,608),(609,609)] [605] [.d] [(605,.arr 1 (i.2.1.map (Qx gA))),(607,.var [.own 605 i.2.1.length,.map 608]),(608,.map (QA V.I (QE gA) m)),(609,.tbl gA 3 (i.2.2.map Qg))] (.ifc 116 (QE gA i.1)),.n 8,.x (fun σ=>σ.set 608 (.map (QA V.I (QE gA) (Qc8 m c)))),.n 5,.cm (.fn) [(607,607),(605,605),(608,608),(609,609)] [(605,605),(607,607),(608,608),(609,609)] [605] [.d] [(605,.arr 1 (i.2.1.map (Qx gA))),(607,.var [.own 605 i.2.1.length,.map 608]),(608,.map (QA V.I (QE gA) (Qc8 m c))),(609,.tbl gA 3 (i.2.2.map Qg))] (.tup [.I t.1,.I t.2.1,.b t.2.2]),.n 8,.K [0,1,5,6,7,8] [27,605,607,608,609]] rfl ⟨⟨⟨⟨⟨⟨tt_,p⟩,rfl⟩,⟨Qk,Qdb z Qk,Qb2,QeD Qk⟩⟩,(QfQ gA _ _ _ A)⟩,(Stp.delete (e:=V.I) (f:=(QE gA)) (l:=m) (k:=c) rfl rfl rfl rfl rfl Qkq Qkp)⟩,(QdN gA _ _ _ B)⟩ ?_
   cases h
   exact QaU rfl rfl
  refine Qa hC [.F,.n 2,.K [5] [27,605,607,608,609]] rfl ⟨tt_,p⟩ ?_
  cases h
  exact QaN rfl (an_ rfl rfl)
 obtain⟨M,N,P,U⟩:=J
 replace h:Qeh M N P U=some r:=h
 rintro e σ ⟨rfl,rfl⟩
 refine tg_ hC [.n 9,.K [4] [27,605,607,608,609],.ren 27 600] rfl ?_
 cases h
 exact d1_ rfl rfl ⟨rfl,rfl,rfl,rfl,rfl,tt_⟩
def Qev (e:Int)(f:(List (Int×Bool)))(a:Qi)(b:(List (Option Nat)))(c:(List (Int×(Option Nat))))(d:(List Qf)):Option ((Int×(List (Int×Bool))×(List (Option Nat))×(List (Int×(Option Nat)))×(List Qf))⊕((List (Option Nat))×(List (Int×(Option Nat)))×(List Qf))):=
 some (.inl ((w64 (e+1)),(Qdy ltI f a.Id true),b,c,d))
def QgQ (h:(List Qi))(d:Int)(e:(List (Int×Bool)))(f:(List (Option Nat)))(g:(List (Int×(Option Nat))))(b:(List Qf)):Option ((Int×(List (Int×Bool))×(List (Option Nat))×(List (Int×(Option Nat)))×(List Qf))⊕((List (Option Nat))×(List (Int×(Option Nat)))×(List Qf))):=
 bif (decide (d<(h.length:Int)))then
 (idx h d).bind fun a=>
 bif ((!((Qbh e a.Id).getD false))&&(decide (0<a.Until)))then
 (Qee f g a.Id a.Until b).bind fun c=>
 Qev d e a c.2.1 c.2.2.2 c.2.2.1
 else
 Qev d e a f g b
 else
 some (.inr (f,g,b))
def QgR (a:Int)(b:(List (Option Nat)))(c:(List (Int×(Option Nat))))(d:(List Qf)):Option (List Int):=
 (Qe3 b c a d).bind fun e=>
 some e.1
def Qiq (c:(List Qi))(a:Int):Option (List Int):=
 (Qip).bind fun b=>
 (Q1 (fun st=>QgQ c st.1 st.2.1 st.2.2.1 st.2.2.2.1 st.2.2.2.2) (0,([]:(List (Int×Bool))),([]:List (Option Nat)),b.1,b.2)).bind (fun q=>QgR a q.1 q.2.1 q.2.2)
theorem Qjp (gA:Nat→Nat)(t:(List Qi))(c:Int){r:(List Int)}(h:Qiq t c=some r):Qh prog 19 [.sl 11 (t.map Qc),.I c] [] (Qp (.own 600 r.length) [(600,.arr 1 (r.map Qo))]):=by
 refine Qh.walk 40 func19 rfl rfl rfl fun C hC=>?_
 obtain⟨U,G,h⟩:=Qe h
 refine Qa hC [.n 7,.cm (.fn) [] [(9,1),(602,3),(603,601)] [] [] [(1,.map (QA V.I (QE gA) U.1)),(3,.var [.lit (.slice none 0 0),.map 1]),(601,.tbl gA 3 (U.2.map Qg))] (.loc 3 0 0),.n 6,.O 10 (.map (QA V.I V.b ([]:(List (Int×Bool))))),.n 7,.o (.ln t.length),.n 4,.adoptO 602 0 604 1,.O 604 (.arr 1 (([]:List (Option Nat)).map (Qx gA))),.O 602 (.var [.own 604 ([]:List (Option Nat)).length,.map 9]),.K [1,5,6,11,12,13] [9,10,602,603,604]] rfl ⟨⟨⟨⟨⟨tt_,(Qjo gA  G)⟩,rfl⟩,Qk⟩,rfl⟩,(congrArg (fun n=>Ob.var [.own 604 n,.map 9]) (by simp))⟩ ?_
 obtain⟨H,A,h⟩:=Qe h
 refine AK.loop (body:=(fun st=>QgQ t st.1 st.2.1 st.2.2.1 st.2.2.2.1 st.2.2.2.2)) (fun st σ=>∃gA:Nat→Nat,σ=⟨[(1,.I c),(5,.loc 602 0 0),(6,.map 10),(11,.sl 11 (t.map Qc)),(12,.I (t.length:Int)),(13,.I st.1)],[(9,.map (QA V.I (QE gA) st.2.2.2.1)),(10,.map (QA V.I V.b st.2.1)),(602,.var [.own 604 st.2.2.1.length,.map 9]),(603,.tbl gA 3 (st.2.2.2.2.map Qg)),(604,.arr 1 (st.2.2.1.map (Qx gA)))]⟩) (fun q e σ=>e=.exit 0∧∃gA:Nat→Nat,σ=⟨[(1,.I c),(5,.loc 602 0 0)],[(9,.map (QA V.I (QE gA) q.2.1)),(602,.var [.own 604 q.1.length,.map 9]),(603,.tbl gA 3 (q.2.2.map Qg)),(604,.arr 1 (q.1.map (Qx gA)))]⟩) A (ex_ _ rfl) ?_ ?_
 ·rintro ⟨J,j,W,Y,L⟩ o σ ⟨gA,rfl⟩ h
  refine tg_ hC [.n 6] rfl ?_
  rcases QO h with⟨m,h⟩|⟨m,h⟩
  ·obtain⟨a,B,h⟩:=Qe h
   refine Qa hC [.T,.n 6,.o (.row (Qc a)),.v .no [] (.agg (Qc a)),.n 2,.O 8 (.var (Qc a)),.n 2] rfl ⟨⟨⟨⟨tt_,m⟩,(Qa5 B)⟩,rfl⟩,rfl⟩ ?_
   refine AK.meet (fun σ=>∃gA:Nat→Nat,∃u:(List (Option Nat)),∃w:(List (Int×(Option Nat))),∃y:(List Qf),σ=⟨[(1,.I c),(5,.loc 602 0 0),(6,.map 10),(8,.loc 8 0 0),(11,.sl 11 (t.map Qc)),(12,.I (t.length:Int)),(13,.I J)],[(8,.var (Qc a)),(9,.map (QA V.I (QE gA) w)),(10,.map (QA V.I V.b j)),(602,.var [.own 604 u.length,.map 9]),(603,.tbl gA 3 (y.map Qg)),(604,.arr 1 (u.map (Qx gA)))]⟩∧Qev J j a u w y=some o) ?_ ?_
   ·refine tg_ hC [.n 1] rfl ?_
    refine AK.meetX (fun σ=>σ=⟨[(1,.I c),(5,.loc 602 0 0),(6,.map 10),(8,.loc 8 0 0),(11,.sl 11 (t.map Qc)),(12,.I (t.length:Int)),(13,.I J),(26,.b ((!((Qbh j a.Id).getD false))&&(decide (0<a.Until))))],[(8,.var (Qc a)),(9,.map (QA V.I (QE gA) Y)),(10,.map (QA V.I V.b j)),(602,.var [.own 604 W.length,.map 9]),(603,.tbl gA 3 (L.map Qg)),(604,.arr 1 (W.map (Qx gA)))]⟩) ?_ ?_
    ·refine Qa hC [.n 4,.o (.any (.b ((Qbh j a.Id).getD false)) none),.n 2] rfl ⟨tt_,(fun σ X Z _=>Stp.lookup (e:=V.I) (f:=V.b) (l:=j) (k:=a.Id) (z:=false) rfl rfl (Qw hC.n rfl) (X _ _ rfl) (Z _ _ rfl) (X _ _ rfl) Qms Qkp Qnx rfl)⟩ ?_
     rcases Qda (!((Qbh j a.Id).getD false))with g | g
     ·refine Qa hC [.S 22 (.b true),.n 5,.S 26 (.b ((!((Qbh j a.Id).getD false))&&(decide (0<a.Until)))),.K [1,5,6,8,11,12,13,26] [8,9,10,602,603,604]] rfl ⟨(tc_ g),(congrArg V.b (Qis g rfl))⟩ ?_
      exact AK.met rfl
     refine Qa hC [.S 22 (.b false),.n 5,.S 26 (.b ((!((Qbh j a.Id).getD false))&&(decide (0<a.Until)))),.K [1,5,6,8,11,12,13,26] [8,9,10,602,603,604]] rfl ⟨(tc_ g),(congrArg V.b (Qit g rfl))⟩ ?_
     exact AK.met rfl
    rintro σ rfl
    refine tg_ hC [.n 1] rfl ?_
    rcases QO h with⟨p,h⟩|⟨p,h⟩
    ·obtain⟨s,D,h⟩:=Qe h
     refine Qa hC [.T,.n 6] rfl ⟨tt_,p⟩ ?_
     refine AK.callE (ι:=Nat→Nat) (Φ:=fun _=>True) [(607,602),(605,604),(608,9),(606,603)] [(604,605),(603,606),(602,607),(9,608)] [604,603] [.d,.d,.d] (fun gA=>[(605,.arr 1 (s.2.1.map (Qx gA))),(606,.tbl gA 3 (s.2.2.1.map Qg)),(607,.var [.own 605 s.2.1.length,.map 608]),(608,.map (QA V.I (QE gA) s.2.2.2))]) (fun gA=>.I s.1) (fun gA=>_) rfl hC (Qaj.fn rfl (by kernel_rfl) rfl) rfl (Qw hC.n rfl) rfl rfl (QfP gA _ _ _ _ _ D) (fun gA=>ex_ _ rfl) fun gA _=>?_
     refine tg_ hC [.n 1,.K [1,5,6,8,11,12,13] [8,9,10,602,603,604]] rfl ?_
     exact AK.met (ex_ _ (ex_ _ (ex_ _ (ex_ _ (an_ rfl h)))))
    refine Qa hC [.F,.n 1,.K [1,5,6,8,11,12,13] [8,9,10,602,603,604]] rfl ⟨tt_,p⟩ ?_
    exact AK.met (ex_ _ (ex_ _ (ex_ _ (ex_ _ (an_ rfl h)))))
   rintro σ ⟨gA,u,w,y,rfl,h⟩
   refine Qa hC [.n 4,.x (fun σ=>σ.set 10 (.map (QA V.I V.b (Qdy ltI j a.Id true)))),.n 7,.K [1,5,6,11,12,13] [9,10,602,603,604]] rfl ⟨tt_,(Stp.mapUpdate (e:=V.I) (f:=V.b) (l:=j) (k:=a.Id) (v:=true) ltI rfl rfl rfl rfl rfl rfl Qms Qkp rfl)⟩ ?_
   cases h
   exact QaU rfl (ex_ _ rfl)
  refine Qa hC [.F,.n 2,.K [1,5] [9,602,603,604]] rfl ⟨tt_,m⟩ ?_
  cases h
  exact QaN rfl (an_ rfl (ex_ _ rfl))
 obtain⟨M,N,P⟩:=H
 replace h:QgR c M N P=some r:=h
 rintro e σ ⟨rfl,gA,rfl⟩
 obtain⟨i,E,h⟩:=Qe h
 refine Qa hC [.n 6,.cm (.fn) [(607,602),(605,604),(608,9),(609,603)] [(39,600),(604,605),(602,607),(9,608),(603,609)] [604] [.d,.d] [(600,.arr 1 (i.1.map Qo)),(605,.arr 1 (i.2.1.map (Qx gA))),(607,.var [.own 605 i.2.1.length,.map 608]),(608,.map (QA V.I (QE gA) i.2.2.1)),(609,.tbl gA 3 (i.2.2.2.map Qg))] (.own 600 i.1.length),.n 4,.K [4] [39],.ren 39 600] rfl ⟨tt_,(Qhu gA _ _ _ _ E)⟩ ?_
 cases h
 exact d1_ rfl rfl ⟨rfl,tt_⟩
def Qf6 (c:(List Int))(d:(List Int))(a:Int):Option (Int⊕(Unit⊕Unit)):=
 bif (decide (a<(c.length:Int)))then
 (idx c a).bind fun e=>
 (idx d a).bind fun b=>
 bif (e != b)then
 some (.inr (.inl ()))
 else
 some (.inl (w64 (a+1)))
 else
 some (.inr (.inr ()))
def Qf7 : Option Bool:=
 some false
def Qf8 : Option Bool:=
 some true
def Qh1 (a:(List Int))(b:(List Int)):Option Bool:=
 bif ((a.length:Int) != (b.length:Int))then
 some false
 else
 (Q1 (fun st=>Qf6 a b st) 0).bind (Sum.elim (fun q=>Qf7) (fun q=>Qf8))
theorem Qi3 (g i){r}(h:Qh1 g i=some r):Qh prog 18 [.sl 1 (g.map Qo),.sl 1 (i.map Qo)] [] (Qp (.b r) []):=by
 refine Qh.walk 26 func18 rfl rfl rfl fun C hC=>?_
 refine Qa hC [.n 9,.o (.ln g.length),.n 1,.o (.ln i.length),.n 3] rfl ⟨⟨tt_,Qk⟩,Qk⟩ ?_
 refine bg_ h (fun d h=>Qa hC [.T,.n 7,.K [4] []] rfl ⟨tt_,d⟩ ?_) fun d h=>Qa hC [.F,.n 9,.K [0,1,5] []] rfl ⟨tt_,d⟩ ?_
 ·cases h
  exact d1_ rfl rfl tt_
 obtain⟨l,j,h⟩:=Qe h
 refine AK.loop (body:=(fun st=>Qf6 g i st)) (fun st σ=>σ=⟨[(0,.sl 1 (g.map Qo)),(1,.sl 1 (i.map Qo)),(5,.I st)],[]⟩) (Sum.elim (fun q e σ=>e=.ret∧σ=⟨[(4,.b false)],[]⟩) (fun q e σ=>e=.exit 0∧σ=⟨[],[]⟩)) j rfl ?_ ?_
 ·rintro t o σ rfl h
  refine Qa hC [.n 5,.o (.ln g.length),.n 3] rfl ⟨tt_,Qk⟩ ?_
  rcases QO h with⟨f,h⟩|⟨f,h⟩
  ·obtain⟨s,m,h⟩:=Qe h
   obtain⟨p,k,h⟩:=Qe h
   refine Qa hC [.T,.n 5,.K [0,1,5] []] rfl ⟨tt_,f⟩ ?_
   refine AK.draw2 Qm hC mixed [.N,.N,.a (.row (Qo s)) none false,.N,.N,.N,.a (.row (Qo p)) none false,.N,.N] [] [] [0,1,5,25] [] rfl rfl rfl ⟨⟨tt_,(Qa5 m)⟩,(Qa5 k)⟩ rfl (by kernel_rfl) rfl rfl rfl ?_
   refine tg_ hC [.n 1] rfl ?_
   refine bg_ h (fun c h=>Qa hC [.T,.n 8,.K [4] []] rfl ⟨tt_,c⟩ ?_) fun c h=>Qa hC [.F,.n 8,.K [0,1,5] []] rfl ⟨tt_,c⟩ ?_
   ·cases h
    exact Qhg rfl (an_ rfl rfl)
   cases h
   exact QaU rfl rfl
  refine Qa hC [.F,.n 2,.K [] []] rfl ⟨tt_,f⟩ ?_
  cases h
  exact QaN rfl (an_ rfl rfl)
 rcases l with(_ | _)
 ·replace h:Qf7=some r:=h
  rintro e σ ⟨rfl,rfl⟩
  refine tg_ hC [.n 2] rfl ?_
  cases h
  exact d1_ rfl rfl tt_
 replace h:Qf8=some r:=h
 rintro e σ ⟨rfl,rfl⟩
 refine tg_ hC [.n 8] rfl ?_
 cases h
 exact d1_ rfl rfl tt_
def QbO (c:Int)(a:Int)(b:Int):Option Bool:=
 some ((decide (a≤c))&&(decide (c≤b)))
theorem Qcm (e a c){r}(h:QbO e a c=some r):Qh prog 89 [.I e,.I a,.I c] [] (Qp (.b r) []):=by
 refine Qh.walk 15 func89 rfl rfl rfl fun C hC=>?_
 refine tg_ hC [.n 6] rfl ?_
 refine AK.meetX (fun σ=>σ=⟨[(6,.b ((decide (a≤e))&&(decide (e≤c))))],[]⟩) ?_ ?_
 ·refine tg_ hC [.n 5] rfl ?_
  rcases Qda (decide (a≤e))with d | d
  ·refine Qa hC [.S 10 (.b true),.n 6,.S 6 (.b ((decide (a≤e))&&(decide (e≤c)))),.K [6] []] rfl ⟨(tc_ d),(congrArg V.b (Qis d rfl))⟩ ?_
   exact AK.met rfl
  refine Qa hC [.S 10 (.b false),.n 6,.S 6 (.b ((decide (a≤e))&&(decide (e≤c)))),.K [6] []] rfl ⟨(tc_ d),(congrArg V.b (Qit d rfl))⟩ ?_
  exact AK.met rfl
 rintro σ rfl
 refine tg_ hC [.n 2] rfl ?_
 cases h
 exact d1_ rfl rfl tt_
def Qh2 (a:Q3):Option Int:=
 some (w64 ((w64 (a.Open+a.Done))+a.Failed))
theorem Qi4 (a){r}(h:Qh2 a=some r):Qh prog 90 [.agg (Qaf a)] [] (Qp (.I r) []):=by
 refine Qh.walk 11 func90 rfl rfl rfl fun C hC=>?_
 refine tg_ hC [.n 20] rfl ?_
 cases h
 exact d1_ rfl rfl tt_
def Qf9 (a:Q3):Option Bool:=
 (QbO a.Most 1 16).bind fun b=>
 bif (!b)then
 some true
 else
 (QbO a.Enough 1 a.Most).bind fun c=>
 some (!c)
def QaQ (a:Q3)(b:Int):Option (Int⊕(Unit⊕Unit)):=
 bif (decide (b<(([a.Open,a.Done,a.Failed]:List Int).length:Int)))then
 (idx ([a.Open,a.Done,a.Failed]:List Int) b).bind fun c=>
 (QbO c 0 a.Most).bind fun d=>
 bif (!d)then
 some (.inr (.inl ()))
 else
 some (.inl (w64 (b+1)))
 else
 some (.inr (.inr ()))
def Qga : Option Bool:=
 some false
def Qgb (c:Q3):Option Bool:=
 (Qh2 c).bind fun a=>
 (QbO a 1 c.Most).bind fun b=>
 some b
def QbS (a:Q3)(b:Bool):Option Bool:=
 bif b then
 some false
 else
 (Q1 (fun st=>QaQ a st) 0).bind (Sum.elim (fun q=>Qga) (fun q=>Qgb a))
def QbC (a:Q3):Option Bool:=
 (Qf9 a).bind (fun b=>QbS a b)
theorem Qgc (f){r}(h:QbC f=some r):Qh prog 50 [.agg (Qaf f)] [] (Qp (.b r) []):=by
 refine Qh.walk 40 func50 rfl rfl rfl fun C hC=>?_
 refine tg_ hC [.n 8] rfl ?_
 obtain⟨u,w,h⟩:=Qe h
 replace h:QbS f u=some r:=h
 refine AK.meetX (fun σ=>σ=⟨[(1,.loc 1 0 0),(16,.b u)],[(1,.var (Qaf f))]⟩) ?_ ?_
 ·replace h:=w
  obtain⟨G,x,h⟩:=Qe h
  refine Qa hC [.n 3,.o (.c false [.d,.d,.d] (.b G)),.n 2] rfl ⟨tt_,(Qcm _ _ _ x)⟩ ?_
  rcases QO h with⟨j,h⟩|⟨j,h⟩
  ·refine Qa hC [.S 9 (.b true),.n 8,.K [1,16] [1]] rfl (tc_ j) ?_
   cases h
   exact AK.met rfl
  obtain⟨H,y,h⟩:=Qe h
  refine Qa hC [.S 9 (.b false),.n 4,.o (.c false [.d,.d,.d] (.b H)),.n 3,.K [1,16] [1]] rfl ⟨(tc_ j),(Qcm _ _ _ y)⟩ ?_
  cases h
  exact AK.met rfl
 rintro σ rfl
 replace h:QbS f u=some r:=h
 refine tg_ hC [.n 1] rfl ?_
 refine bg_ h (fun k h=>Qa hC [.T,.n 7,.K [2] []] rfl ⟨tt_,k⟩ ?_) fun k h=>Qa hC [.F,.n 11,.v (.bd []) [] (.sl 1 (([f.Open,f.Done,f.Failed]:List Int).map Qo)),.o (.ln ([f.Open,f.Done,f.Failed]:List Int).length),.n 4,.K [1,23,24,25] [1]] rfl ⟨⟨⟨tt_,k⟩,rfl⟩,Qk⟩ ?_
 ·cases h
  exact d1_ rfl rfl tt_
 obtain⟨z,l,h⟩:=Qe h
 refine AK.loop (body:=(fun st=>QaQ f st)) (fun st σ=>σ=⟨[(1,.loc 1 0 0),(23,.sl 1 (([f.Open,f.Done,f.Failed]:List Int).map Qo)),(24,.I (([f.Open,f.Done,f.Failed]:List Int).length:Int)),(25,.I st)],[(1,.var (Qaf f))]⟩) (Sum.elim (fun q e σ=>e=.ret∧σ=⟨[(2,.b false)],[]⟩) (fun q e σ=>e=.exit 0∧σ=⟨[(1,.loc 1 0 0)],[(1,.var (Qaf f))]⟩)) l rfl ?_ ?_
 ·rintro J o σ rfl h
  refine tg_ hC [.n 6] rfl ?_
  rcases QO h with⟨g,h⟩|⟨g,h⟩
  ·obtain⟨A,m,h⟩:=Qe h
   obtain⟨B,p,h⟩:=Qe h
   refine Qa hC [.T,.n 6,.o (.row (Qo A)),.n 9,.o (.c false [.d,.d,.d] (.b B)),.n 3] rfl ⟨⟨⟨tt_,g⟩,(Qa5 m)⟩,(Qcm _ _ _ p)⟩ ?_
   refine bg_ h (fun i h=>Qa hC [.T,.n 8,.K [2] []] rfl ⟨tt_,i⟩ ?_) fun i h=>Qa hC [.F,.n 7,.K [1,23,24,25] [1]] rfl ⟨tt_,i⟩ ?_
   ·cases h
    exact Qhg rfl (an_ rfl rfl)
   cases h
   exact QaU rfl rfl
  refine Qa hC [.F,.n 2,.K [1] [1]] rfl ⟨tt_,g⟩ ?_
  cases h
  exact QaN rfl (an_ rfl rfl)
 rcases z with(_ | _)
 ·replace h:Qga=some r:=h
  rintro e σ ⟨rfl,rfl⟩
  refine tg_ hC [.n 2] rfl ?_
  cases h
  exact d1_ rfl rfl tt_
 replace h:Qgb f=some r:=h
 rintro e σ ⟨rfl,rfl⟩
 obtain⟨D,s,h⟩:=Qe h
 obtain⟨E,t,h⟩:=Qe h
 refine tg_ hC [.n 3,.K [1] [1]] rfl ?_
 refine AK.draw2 Qm hC mixed [.a .no (some ([],.agg (Qaf f))) false,.a (.c false [.d] (.I D)) none false,.N,.N,.a (.c false [.d,.d,.d] (.b E)) none false,.N] [] [] [2] [] rfl rfl rfl ⟨⟨⟨tt_,rfl⟩,(Qi4 _ s)⟩,(Qcm _ _ _ t)⟩ rfl (by kernel_rfl) rfl rfl rfl ?_
 refine tg_ hC [.n 2] rfl ?_
 cases h
 exact d1_ rfl rfl tt_
def QgS (a:Q3):Option Bool:=
 (QbC a).bind fun b=>
 bif b then
 bif (decide (a.Enough≤a.Done))then
 some true
 else
 some (a.Open==0)
 else
 some false
def Qc1 (a:Bool):Option Bool:=
 some a
def Qcx (a:Q3):Option Bool:=
 (QgS a).bind (fun b=>Qc1 b)
theorem Qjq (f){r}(h:Qcx f=some r):Qh prog 51 [.agg (Qaf f)] [] (Qp (.b r) []):=by
 refine Qh.walk 17 func51 rfl rfl rfl fun C hC=>?_
 refine tg_ hC [.n 7] rfl ?_
 obtain⟨g,i,h⟩:=Qe h
 replace h:Qc1 g=some r:=h
 refine AK.meetX (fun σ=>σ=⟨[(2,.b g)],[]⟩) ?_ ?_
 ·replace h:=i
  obtain⟨k,j,h⟩:=Qe h
  refine Qa hC [.n 1,.v .no [] (.agg (Qaf f)),.o (.c false [.d] (.b k)),.n 1] rfl ⟨⟨tt_,rfl⟩,(Qgc _ j)⟩ ?_
  refine bg_ h (fun a h=>Qa hC [.S 5 (.b true),.n 6] rfl (tc_ a) ?_) fun a h=>Qa hC [.S 5 (.b false),.n 13,.K [2] []] rfl (tc_ a) ?_
  ·refine bg_ h (fun e h=>Qa hC [.S 11 (.b true),.n 7,.K [2] []] rfl (tc_ e) ?_) fun e h=>Qa hC [.S 11 (.b false),.n 7,.K [2] []] rfl (tc_ e) ?_
   ·cases h
    exact AK.met rfl
   cases h
   exact AK.met rfl
  cases h
  exact AK.met rfl
 rintro σ rfl
 replace h:Qc1 g=some r:=h
 refine tg_ hC [.n 2] rfl ?_
 cases h
 exact d1_ rfl rfl tt_
def QdB (a:Qi)(b:Int)(next_2:Int):Option Bool:=
 bif (decide (a.Id≤b))then
 some true
 else
 bif (decide (next_2≤a.Id))then
 some true
 else
 bif (decide (a.Until<0))then
 some true
 else
 (QbC a.Batch).bind fun c=>
 bif (!c)then
 some true
 else
 (Qcx a.Batch).bind fun d=>
 some d
def Qcn (a:Qi)(c:Int)(b:Bool):Option ((Int×Int)⊕(Unit⊕Unit)):=
 bif b then
 some (.inr (.inl ()))
 else
 some (.inl (a.Id,(w64 (c+1))))
def QaC (e:(List Qi))(next_2:Int)(a:Int)(c:Int):Option ((Int×Int)⊕(Unit⊕Unit)):=
 bif (decide (c<(e.length:Int)))then
 (idx e c).bind fun b=>
 (QdB b a next_2).bind (fun d=>Qcn b c d)
 else
 some (.inr (.inr ()))
def QfH : Option Bool:=
 some false
def QfI (a:(List Qi)):Option Bool:=
 some (decide ((a.length:Int)≤64))
def QbP (a:(List Qi))(next_2:Int):Option Bool:=
 (Q1 (fun st=>QaC a next_2 st.1 st.2) (0,0)).bind (Sum.elim (fun q=>QfH) (fun q=>QfI a))
theorem QdC (f next_2){r}(h:QbP f next_2=some r):Qh prog 21 [.sl 11 (f.map Qc),.I next_2] [] (Qp (.b r) []):=by
 refine Qh.walk 46 func21 rfl rfl rfl fun C hC=>?_
 refine Qa hC [.n 14,.o (.ln f.length),.n 4,.K [0,1,5,8,9,10] []] rfl ⟨tt_,Qk⟩ ?_
 obtain⟨y,s,h⟩:=Qe h
 refine AK.loop (body:=(fun st=>QaC f next_2 st.1 st.2)) (fun st σ=>σ=⟨[(0,.sl 11 (f.map Qc)),(1,.I next_2),(5,.I st.1),(8,.sl 11 (f.map Qc)),(9,.I (f.length:Int)),(10,.I st.2)],[]⟩) (Sum.elim (fun q e σ=>e=.ret∧σ=⟨[(4,.b false)],[]⟩) (fun q e σ=>e=.exit 0∧σ=⟨[(0,.sl 11 (f.map Qc))],[]⟩)) s rfl ?_ ?_
 ·rintro ⟨z,A⟩ o σ rfl h
  refine tg_ hC [.n 6] rfl ?_
  rcases QO h with⟨m,h⟩|⟨m,h⟩
  ·obtain⟨a,t,h⟩:=Qe h
   refine Qa hC [.T,.n 6,.o (.row (Qc a)),.v .no [] (.agg (Qc a)),.n 2,.O 7 (.var (Qc a)),.n 4] rfl ⟨⟨⟨⟨tt_,m⟩,(Qa5 t)⟩,rfl⟩,rfl⟩ ?_
   obtain⟨p,u,h⟩:=Qe h
   replace h:Qcn a A p=some o:=h
   refine AK.meetX (fun σ=>σ=⟨[(0,.sl 11 (f.map Qc)),(1,.I next_2),(7,.loc 7 0 0),(8,.sl 11 (f.map Qc)),(9,.I (f.length:Int)),(10,.I A),(39,.b p)],[(7,.var (Qc a))]⟩) ?_ ?_
   ·replace h:=u
    refine tg_ hC [.n 6] rfl ?_
    refine bg_ h (fun g h=>Qa hC [.S 18 (.b true),.n 22,.K [0,1,7,8,9,10,39] [7]] rfl (tc_ g) ?_) fun g h=>Qa hC [.S 18 (.b false),.n 6] rfl (tc_ g) ?_
    ·cases h
     exact AK.met rfl
    refine bg_ h (fun i h=>Qa hC [.S 24 (.b true),.n 16,.K [0,1,7,8,9,10,39] [7]] rfl (tc_ i) ?_) fun i h=>Qa hC [.S 24 (.b false),.n 5] rfl (tc_ i) ?_
    ·cases h
     exact AK.met rfl
    rcases QO h with⟨j,h⟩|⟨j,h⟩
    ·refine Qa hC [.S 29 (.b true),.n 11,.K [0,1,7,8,9,10,39] [7]] rfl (tc_ j) ?_
     cases h
     exact AK.met rfl
    obtain⟨B,w,h⟩:=Qe h
    refine Qa hC [.S 29 (.b false),.n 1,.v .no [] (.agg (Qaf a.Batch)),.o (.c false [.d] (.b B)),.n 3] rfl ⟨⟨(tc_ j),rfl⟩,(Qgc _ w)⟩ ?_
    rcases QO h with⟨k,h⟩|⟨k,h⟩
    ·refine Qa hC [.S 35 (.b true),.n 5,.K [0,1,7,8,9,10,39] [7]] rfl (tc_ k) ?_
     cases h
     exact AK.met rfl
    obtain⟨D,x,h⟩:=Qe h
    refine Qa hC [.S 35 (.b false),.n 1,.v .no [] (.agg (Qaf a.Batch)),.o (.c false [.d] (.b D)),.n 2,.K [0,1,7,8,9,10,39] [7]] rfl ⟨⟨(tc_ k),rfl⟩,(Qjq _ x)⟩ ?_
    cases h
    exact AK.met rfl
   rintro σ rfl
   replace h:Qcn a A p=some o:=h
   refine tg_ hC [.n 1] rfl ?_
   refine bg_ h (fun l h=>Qa hC [.T,.n 9,.K [4] []] rfl ⟨tt_,l⟩ ?_) fun l h=>Qa hC [.F,.n 13,.K [0,1,5,8,9,10] []] rfl ⟨tt_,l⟩ ?_
   ·cases h
    exact Qhg rfl (an_ rfl rfl)
   cases h
   exact QaU rfl rfl
  refine Qa hC [.F,.n 2,.K [0] []] rfl ⟨tt_,m⟩ ?_
  cases h
  exact QaN rfl (an_ rfl rfl)
 rcases y with(_ | _)
 ·replace h:QfH=some r:=h
  rintro e σ ⟨rfl,rfl⟩
  refine tg_ hC [.n 2] rfl ?_
  cases h
  exact d1_ rfl rfl tt_
 replace h:QfI f=some r:=h
 rintro e σ ⟨rfl,rfl⟩
 refine Qa hC [.n 5,.o (.ln f.length),.n 5] rfl ⟨tt_,Qk⟩ ?_
 cases h
 exact d1_ rfl rfl tt_
def Q0 (c:QBg)(e:QBg)(b:Int):Option (Int⊕(Unit⊕Unit)):=
 bif (decide (b<(c.length:Int)))then
 (idx c b).bind fun d=>
 (idx e b).bind fun a=>
 bif (!((d.1==a.1)&&(d.2==a.2)))then
 some (.inr (.inl ()))
 else
 some (.inl (w64 (b+1)))
 else
 some (.inr (.inr ()))
def QaH : Option Bool:=
 some false
def QaI : Option Bool:=
 some true
def Qay (a:QBg)(b:QBg):Option Bool:=
 bif ((a.length:Int) != (b.length:Int))then
 some false
 else
 (Q1 (fun st=>Q0 a b st) 0).bind (Sum.elim (fun q=>QaH) (fun q=>QaI))
theorem QdS (f j){r}(h:Qay f j=some r):Qh prog 96 [.sl 2 (f.map QF),.sl 2 (j.map QF)] [] (Qp (.b r) []):=by
 refine Qh.walk 26 func96 rfl rfl rfl fun C hC=>?_
 refine Qa hC [.n 9,.o (.ln f.length),.n 1,.o (.ln j.length),.n 3] rfl ⟨⟨tt_,Qk⟩,Qk⟩ ?_
 refine bg_ h (fun g h=>Qa hC [.T,.n 7,.K [4] []] rfl ⟨tt_,g⟩ ?_) fun g h=>Qa hC [.F,.n 6,.o (.ln f.length),.n 4,.K [0,1,12,13] []] rfl ⟨⟨tt_,g⟩,Qk⟩ ?_
 ·cases h
  exact d1_ rfl rfl tt_
 obtain⟨p,k,h⟩:=Qe h
 refine AK.loop (body:=(fun st=>Q0 f j st)) (fun st σ=>σ=⟨[(0,.sl 2 (f.map QF)),(1,.sl 2 (j.map QF)),(12,.I (f.length:Int)),(13,.I st)],[]⟩) (Sum.elim (fun q e σ=>e=.ret∧σ=⟨[(4,.b false)],[]⟩) (fun q e σ=>e=.exit 0∧σ=⟨[],[]⟩)) k rfl ?_ ?_
 ·rintro u o σ rfl h
  refine tg_ hC [.n 6] rfl ?_
  rcases QO h with⟨i,h⟩|⟨i,h⟩
  ·obtain⟨m,s,h⟩:=Qe h
   obtain⟨d,l,h⟩:=Qe h
   refine Qa hC [.T,.n 11,.K [0,1,5,12,13] []] rfl ⟨tt_,i⟩ ?_
   refine AK.draw2 Qm hC mixed [.N,.N,.a (.row (QF m)) none false,.a .no (some ([],.agg (QF m))) false,.N,.N,.a (.row (QF d)) none false,.a .no (some ([],.agg (QF d))) false,.a (.any (.b (!((m.1==d.1)&&(m.2==d.2)))) none) none false] [] [] [0,1,12,13,24] [] rfl rfl rfl ⟨⟨⟨⟨⟨tt_,(Qa5 s)⟩,rfl⟩,(Qa5 l)⟩,rfl⟩,(fun σ t v _=>Stp.neAgg rfl rfl (Qw hC.n rfl) (t _ _ rfl) (t _ _ rfl) rfl rfl (Qne _ _ _ _))⟩ rfl (by kernel_rfl) rfl rfl rfl ?_
   refine tg_ hC [.n 1] rfl ?_
   refine bg_ h (fun c h=>Qa hC [.T,.n 8,.K [4] []] rfl ⟨tt_,c⟩ ?_) fun c h=>Qa hC [.F,.n 7,.K [0,1,12,13] []] rfl ⟨tt_,c⟩ ?_
   ·cases h
    exact Qhg rfl (an_ rfl rfl)
   cases h
   exact QaU rfl rfl
  refine Qa hC [.F,.n 2,.K [] []] rfl ⟨tt_,i⟩ ?_
  cases h
  exact QaN rfl (an_ rfl rfl)
 rcases p with(_ | _)
 ·replace h:QaH=some r:=h
  rintro e σ ⟨rfl,rfl⟩
  refine tg_ hC [.n 2] rfl ?_
  cases h
  exact d1_ rfl rfl tt_
 replace h:QaI=some r:=h
 rintro e σ ⟨rfl,rfl⟩
 refine tg_ hC [.n 8] rfl ?_
 cases h
 exact d1_ rfl rfl tt_
def Qei (a:QBg)(b:QBg):Option Bool:=
 (Qay a b).bind fun c=>
 some c
theorem Qh3 (e f){r}(h:Qei e f=some r):Qh prog 63 [.sl 2 (e.map QF),.sl 2 (f.map QF)] [] (Qp (.b r) []):=by
 refine Qh.walk 8 func63 rfl rfl rfl fun C hC=>?_
 obtain⟨g,a,h⟩:=Qe h
 refine Qa hC [.n 9,.o (.c false [.d,.d] (.b g)),.n 4] rfl ⟨tt_,(QdS _ _ a)⟩ ?_
 cases h
 exact d1_ rfl rfl tt_
def Qr (d:QMk)(e:QMk)(a:Int):Option (Int⊕(Unit⊕Unit)):=
 bif (decide (a<(d.length:Int)))then
 (idx d a).bind fun f=>
 (idx e a).bind fun b=>
 (Qei f b).bind fun c=>
 bif (!c)then
 some (.inr (.inl ()))
 else
 some (.inl (w64 (a+1)))
 else
 some (.inr (.inr ()))
def QL : Option Bool:=
 some false
def QM : Option Bool:=
 some true
def QG (a:QMk)(b:QMk):Option Bool:=
 bif ((a.length:Int) != (b.length:Int))then
 some false
 else
 (Q1 (fun st=>Qr a b st) 0).bind (Sum.elim (fun q=>QL) (fun q=>QM))
theorem QaJ (f j){r}(h:QG f j=some r):Qh prog 62 [.sl 1 (f.map Q6),.sl 1 (j.map Q6),.clo (.func 63) [] []] [] (Qp (.b r) []):=by
 refine Qh.walk 32 func62 rfl rfl rfl fun C hC=>?_
 refine Qa hC [.n 9,.o (.ln f.length),.n 1,.o (.ln j.length),.n 3] rfl ⟨⟨tt_,Qk⟩,Qk⟩ ?_
 refine bg_ h (fun g h=>Qa hC [.T,.n 7,.K [6] []] rfl ⟨tt_,g⟩ ?_) fun g h=>Qa hC [.F,.n 6,.o (.ln f.length),.n 4,.K [1,2,15,16,17] []] rfl ⟨⟨tt_,g⟩,Qk⟩ ?_
 ·cases h
  exact d1_ rfl rfl tt_
 obtain⟨p,k,h⟩:=Qe h
 refine AK.loop (body:=(fun st=>Qr f j st)) (fun st σ=>σ=⟨[(1,.sl 1 (j.map Q6)),(2,.clo (.func 63) [] []),(15,.sl 1 (f.map Q6)),(16,.I (f.length:Int)),(17,.I st)],[]⟩) (Sum.elim (fun q e σ=>e=.ret∧σ=⟨[(6,.b false)],[]⟩) (fun q e σ=>e=.exit 0∧σ=⟨[],[]⟩)) k rfl ?_ ?_
 ·rintro w o σ rfl h
  refine tg_ hC [.n 6] rfl ?_
  rcases QO h with⟨i,h⟩|⟨i,h⟩
  ·obtain⟨v,s,h⟩:=Qe h
   obtain⟨t,l,h⟩:=Qe h
   obtain⟨u,m,h⟩:=Qe h
   refine Qa hC [.T,.n 7,.o (.row (Q6 v)),.n 9,.o (.row (Q6 t)),.n 9,.o (.c false [.d,.d] (.b u)),.n 3] rfl ⟨⟨⟨⟨tt_,i⟩,(Qa5 s)⟩,(Qa5 l)⟩,(Qh3 _ _ m)⟩ ?_
   refine bg_ h (fun a h=>Qa hC [.T,.n 8,.K [6] []] rfl ⟨tt_,a⟩ ?_) fun a h=>Qa hC [.F,.n 7,.K [1,2,15,16,17] []] rfl ⟨tt_,a⟩ ?_
   ·cases h
    exact Qhg rfl (an_ rfl rfl)
   cases h
   exact QaU rfl rfl
  refine Qa hC [.F,.n 2,.K [] []] rfl ⟨tt_,i⟩ ?_
  cases h
  exact QaN rfl (an_ rfl rfl)
 rcases p with(_ | _)
 ·replace h:QL=some r:=h
  rintro e σ ⟨rfl,rfl⟩
  refine tg_ hC [.n 2] rfl ?_
  cases h
  exact d1_ rfl rfl tt_
 replace h:QM=some r:=h
 rintro e σ ⟨rfl,rfl⟩
 refine tg_ hC [.n 8] rfl ?_
 cases h
 exact d1_ rfl rfl tt_
def Qab (c:(List Int))(d:(List Int))(a:Int):Option (Int⊕(Unit⊕Unit)):=
 bif (decide (a<(c.length:Int)))then
 (idx c a).bind fun e=>
 (idx d a).bind fun b=>
 bif (e != b)then
 some (.inr (.inl ()))
 else
 some (.inl (w64 (a+1)))
 else
 some (.inr (.inr ()))
def Qbp : Option Bool:=
 some false
def Qbq : Option Bool:=
 some true
def Qaq (a:(List Int))(b:(List Int)):Option Bool:=
 bif ((a.length:Int) != (b.length:Int))then
 some false
 else
 (Q1 (fun st=>Qab a b st) 0).bind (Sum.elim (fun q=>Qbp) (fun q=>Qbq))
theorem Qbr (d i){r}(h:Qaq d i=some r):Qh prog 79 [.sl 1 (d.map Qo),.sl 1 (i.map Qo)] [] (Qp (.b r) []):=by
 refine Qh.walk 26 func79 rfl rfl rfl fun C hC=>?_
 refine Qa hC [.n 9,.o (.ln d.length),.n 1,.o (.ln i.length),.n 3] rfl ⟨⟨tt_,Qk⟩,Qk⟩ ?_
 refine bg_ h (fun f h=>Qa hC [.T,.n 7,.K [4] []] rfl ⟨tt_,f⟩ ?_) fun f h=>Qa hC [.F,.n 6,.o (.ln d.length),.n 4,.K [0,1,12,13] []] rfl ⟨⟨tt_,f⟩,Qk⟩ ?_
 ·cases h
  exact d1_ rfl rfl tt_
 obtain⟨l,j,h⟩:=Qe h
 refine AK.loop (body:=(fun st=>Qab d i st)) (fun st σ=>σ=⟨[(0,.sl 1 (d.map Qo)),(1,.sl 1 (i.map Qo)),(12,.I (d.length:Int)),(13,.I st)],[]⟩) (Sum.elim (fun q e σ=>e=.ret∧σ=⟨[(4,.b false)],[]⟩) (fun q e σ=>e=.exit 0∧σ=⟨[],[]⟩)) j rfl ?_ ?_
 ·rintro t o σ rfl h
  refine tg_ hC [.n 6] rfl ?_
  rcases QO h with⟨g,h⟩|⟨g,h⟩
  ·obtain⟨s,m,h⟩:=Qe h
   obtain⟨p,k,h⟩:=Qe h
   refine Qa hC [.T,.n 11,.K [0,1,5,12,13] []] rfl ⟨tt_,g⟩ ?_
   refine AK.draw2 Qm hC mixed [.N,.N,.a (.row (Qo s)) none false,.N,.N,.N,.a (.row (Qo p)) none false,.N,.N] [] [] [0,1,12,13,24] [] rfl rfl rfl ⟨⟨tt_,(Qa5 m)⟩,(Qa5 k)⟩ rfl (by kernel_rfl) rfl rfl rfl ?_
   refine tg_ hC [.n 1] rfl ?_
   refine bg_ h (fun c h=>Qa hC [.T,.n 8,.K [4] []] rfl ⟨tt_,c⟩ ?_) fun c h=>Qa hC [.F,.n 7,.K [0,1,12,13] []] rfl ⟨tt_,c⟩ ?_
   ·cases h
    exact Qhg rfl (an_ rfl rfl)
   cases h
   exact QaU rfl rfl
  refine Qa hC [.F,.n 2,.K [] []] rfl ⟨tt_,g⟩ ?_
  cases h
  exact QaN rfl (an_ rfl rfl)
 rcases l with(_ | _)
 ·replace h:Qbp=some r:=h
  rintro e σ ⟨rfl,rfl⟩
  refine tg_ hC [.n 2] rfl ?_
  cases h
  exact d1_ rfl rfl tt_
 replace h:Qbq=some r:=h
 rintro e σ ⟨rfl,rfl⟩
 refine tg_ hC [.n 8] rfl ?_
 cases h
 exact d1_ rfl rfl tt_
def Qes (a:Qi)(b:Qi):Option Bool:=
 bif (a.Id==b.Id)then
 bif ((a.Batch.Most==b.Batch.Most)&&((a.Batch.Enough==b.Batch.Enough)&&((a.Batch.Open==b.Batch.Open)&&((a.Batch.Done==b.Batch.Done)&&(a.Batch.Failed==b.Batch.Failed)))))then
 bif (a.Until==b.Until)then
 bif (a.Mode.Task==b.Mode.Task)then
 (Qaq a.Mode.Vars b.Mode.Vars).bind fun c=>
 bif c then
 (Qaq a.Mode.Ins b.Mode.Ins).bind fun d=>
 bif d then
 (Qaq a.Mode.Outs b.Mode.Outs).bind fun e=>
 some e
 else
 some false
 else
 some false
 else
 some false
 else
 some false
 else
 some false
 else
 some false
def QbE (a:Bool):Option Bool:=
 some a
def Qco (a:Qi)(b:Qi):Option Bool:=
 (Qes a b).bind (fun c=>QbE c)
theorem QhE (g i){r}(h:Qco g i=some r):Qh prog 65 [.agg (Qc g),.agg (Qc i)] [] (Qp (.b r) []):=by
 refine Qh.walk 58 func65 rfl rfl rfl fun C hC=>?_
 refine tg_ hC [.n 8,.K [2,3] [2,3]] rfl ?_
 refine AK.draw2 Qm hC mixed [.N,.a .no (some ([],.agg (Qar g.Mode))) false,.a .no none true,.a .no (some ([],.agg (Qar i.Mode))) true,.N,.N,.m .s,.m .s] [2,3] [2,3] [2,3,5,6] [2,3,5,6] rfl rfl rfl ⟨⟨tt_,rfl⟩,rfl⟩ rfl (by kernel_rfl) rfl rfl rfl ?_
 refine Qa hC [.O 5 (.var (Qar g.Mode)),.O 6 (.var (Qar i.Mode)),.n 2] rfl ⟨⟨tt_,rfl⟩,rfl⟩ ?_
 obtain⟨w,x,h⟩:=Qe h
 replace h:QbE w=some r:=h
 refine AK.meetX (fun σ=>σ=⟨[(4,.b w)],[]⟩) ?_ ?_
 ·replace h:=x
  refine tg_ hC [.n 7] rfl ?_
  refine bg_ h (fun j h=>Qa hC [.S 16 (.b true),.n 1,.v .no [] (.agg (Qaf g.Batch)),.n 1,.v .no [] (.agg (Qaf i.Batch)),.o (.any (.b ((g.Batch.Most==i.Batch.Most)&&((g.Batch.Enough==i.Batch.Enough)&&((g.Batch.Open==i.Batch.Open)&&((g.Batch.Done==i.Batch.Done)&&(g.Batch.Failed==i.Batch.Failed)))))) none),.n 2] rfl ⟨⟨⟨(tc_ j),rfl⟩,rfl⟩,(fun σ B D _=>Stp.eqAgg rfl rfl (Qw hC.n rfl) (B _ _ rfl) (B _ _ rfl) rfl rfl (Qnd _ _ _ _ _ _ _ _ _ _))⟩ ?_) fun j h=>Qa hC [.S 16 (.b false),.n 43,.K [4] []] rfl (tc_ j) ?_
  ·refine bg_ h (fun k h=>Qa hC [.S 23 (.b true),.n 7] rfl (tc_ k) ?_) fun k h=>Qa hC [.S 23 (.b false),.n 36,.K [4] []] rfl (tc_ k) ?_
   ·refine bg_ h (fun l h=>Qa hC [.S 30 (.b true),.n 7] rfl (tc_ l) ?_) fun l h=>Qa hC [.S 30 (.b false),.n 29,.K [4] []] rfl (tc_ l) ?_
    ·rcases QO h with⟨p,h⟩|⟨p,h⟩
     ·obtain⟨y,q,h⟩:=Qe h
      refine Qa hC [.S 37 (.b true),.n 4,.o (.c false [.d,.d] (.b y)),.n 2] rfl ⟨(tc_ p),(Qbr _ _ q)⟩ ?_
      rcases QO h with⟨e,h⟩|⟨e,h⟩
      ·obtain⟨z,t,h⟩:=Qe h
       refine Qa hC [.S 44 (.b true),.n 4,.o (.c false [.d,.d] (.b z)),.n 2] rfl ⟨(tc_ e),(Qbr _ _ t)⟩ ?_
       rcases QO h with⟨f,h⟩|⟨f,h⟩
       ·obtain⟨A,u,h⟩:=Qe h
        refine Qa hC [.S 51 (.b true),.n 4,.o (.c false [.d,.d] (.b A)),.n 3,.K [4] []] rfl ⟨(tc_ f),(Qbr _ _ u)⟩ ?_
        cases h
        exact AK.met rfl
       refine Qa hC [.S 51 (.b false),.n 8,.K [4] []] rfl (tc_ f) ?_
       cases h
       exact AK.met rfl
      refine Qa hC [.S 44 (.b false),.n 15,.K [4] []] rfl (tc_ e) ?_
      cases h
      exact AK.met rfl
     refine Qa hC [.S 37 (.b false),.n 22,.K [4] []] rfl (tc_ p) ?_
     cases h
     exact AK.met rfl
    cases h
    exact AK.met rfl
   cases h
   exact AK.met rfl
  cases h
  exact AK.met rfl
 rintro σ rfl
 replace h:QbE w=some r:=h
 refine tg_ hC [.n 2] rfl ?_
 cases h
 exact d1_ rfl rfl tt_
def Qt (d:(List Qi))(e:(List Qi))(a:Int):Option (Int⊕(Unit⊕Unit)):=
 bif (decide (a<(d.length:Int)))then
 (idx d a).bind fun f=>
 (idx e a).bind fun b=>
 (Qco f b).bind fun c=>
 bif (!c)then
 some (.inr (.inl ()))
 else
 some (.inl (w64 (a+1)))
 else
 some (.inr (.inr ()))
def QU : Option Bool:=
 some false
def QV : Option Bool:=
 some true
def QI (a:(List Qi))(b:(List Qi)):Option Bool:=
 bif ((a.length:Int) != (b.length:Int))then
 some false
 else
 (Q1 (fun st=>Qt a b st) 0).bind (Sum.elim (fun q=>QU) (fun q=>QV))
theorem Qa3 (g k){r}(h:QI g k=some r):Qh prog 64 [.sl 11 (g.map Qc),.sl 11 (k.map Qc),.clo (.func 65) [] []] [] (Qp (.b r) []):=by
 refine Qh.walk 32 func64 rfl rfl rfl fun C hC=>?_
 refine Qa hC [.n 9,.o (.ln g.length),.n 1,.o (.ln k.length),.n 3] rfl ⟨⟨tt_,Qk⟩,Qk⟩ ?_
 refine bg_ h (fun i h=>Qa hC [.T,.n 7,.K [6] []] rfl ⟨tt_,i⟩ ?_) fun i h=>Qa hC [.F,.n 6,.o (.ln g.length),.n 4,.K [1,2,15,16,17] []] rfl ⟨⟨tt_,i⟩,Qk⟩ ?_
 ·cases h
  exact d1_ rfl rfl tt_
 obtain⟨t,l,h⟩:=Qe h
 refine AK.loop (body:=(fun st=>Qt g k st)) (fun st σ=>σ=⟨[(1,.sl 11 (k.map Qc)),(2,.clo (.func 65) [] []),(15,.sl 11 (g.map Qc)),(16,.I (g.length:Int)),(17,.I st)],[]⟩) (Sum.elim (fun q e σ=>e=.ret∧σ=⟨[(6,.b false)],[]⟩) (fun q e σ=>e=.exit 0∧σ=⟨[],[]⟩)) l rfl ?_ ?_
 ·rintro x o σ rfl h
  refine tg_ hC [.n 6] rfl ?_
  rcases QO h with⟨j,h⟩|⟨j,h⟩
  ·obtain⟨s,u,h⟩:=Qe h
   obtain⟨f,m,h⟩:=Qe h
   obtain⟨w,p,h⟩:=Qe h
   refine Qa hC [.T,.n 7,.o (.row (Qc s)),.v .no [] (.agg (Qc s)),.n 3,.O 8 (.var (Qc s)),.n 6,.o (.row (Qc f)),.v .no [] (.agg (Qc f)),.n 2,.O 9 (.var (Qc f)),.n 5,.v .no [] (.agg (Qc s)),.v .no [] (.agg (Qc f)),.o (.c false [.d,.d] (.b w)),.n 3] rfl ⟨⟨⟨⟨⟨⟨⟨⟨⟨⟨tt_,j⟩,(Qa5 u)⟩,rfl⟩,rfl⟩,(Qa5 m)⟩,rfl⟩,rfl⟩,rfl⟩,rfl⟩,(QhE _ _ p)⟩ ?_
   refine bg_ h (fun a h=>Qa hC [.T,.n 8,.K [6] []] rfl ⟨tt_,a⟩ ?_) fun a h=>Qa hC [.F,.n 7,.K [1,2,15,16,17] []] rfl ⟨tt_,a⟩ ?_
   ·cases h
    exact Qhg rfl (an_ rfl rfl)
   cases h
   exact QaU rfl rfl
  refine Qa hC [.F,.n 2,.K [] []] rfl ⟨tt_,j⟩ ?_
  cases h
  exact QaN rfl (an_ rfl rfl)
 rcases t with(_ | _)
 ·replace h:QU=some r:=h
  rintro e σ ⟨rfl,rfl⟩
  refine tg_ hC [.n 2] rfl ?_
  cases h
  exact d1_ rfl rfl tt_
 replace h:QV=some r:=h
 rintro e σ ⟨rfl,rfl⟩
 refine tg_ hC [.n 8] rfl ?_
 cases h
 exact d1_ rfl rfl tt_
def Qgd (a:Qae)(b:Qae):Option Bool:=
 bif (a.Next==b.Next)then
 bif (a.Now==b.Now)then
 (QG a.M b.M).bind fun d=>
 bif d then
 (QI a.Items b.Items).bind fun c=>
 some c
 else
 some false
 else
 some false
 else
 some false
def QcG (a:Bool):Option Bool:=
 some a
def Qb9 (a:Qae)(b:Qae):Option Bool:=
 (Qgd a b).bind (fun c=>QcG c)
theorem Qej (l m){r}(h:Qb9 l m=some r):Qh prog 28 [.agg (QX l),.agg (QX m)] [] (Qp (.b r) []):=by
 refine Qh.walk 31 func28 rfl rfl rfl fun C hC=>?_
 refine tg_ hC [.n 8] rfl ?_
 obtain⟨g,i,h⟩:=Qe h
 replace h:QcG g=some r:=h
 refine AK.meetX (fun σ=>σ=⟨[(4,.b g)],[]⟩) ?_ ?_
 ·replace h:=i
  refine tg_ hC [.n 7] rfl ?_
  refine bg_ h (fun a h=>Qa hC [.S 10 (.b true),.n 7] rfl (tc_ a) ?_) fun a h=>Qa hC [.S 10 (.b false),.n 22,.K [4] []] rfl (tc_ a) ?_
  ·rcases QO h with⟨c,h⟩|⟨c,h⟩
   ·obtain⟨o,j,h⟩:=Qe h
    refine Qa hC [.S 17 (.b true),.n 4,.cm (.fn) [] [] [] [.d,.d,.d] [] (.b o),.n 2] rfl ⟨(tc_ c),(QaJ _ _ j)⟩ ?_
    rcases QO h with⟨e,h⟩|⟨e,h⟩
    ·obtain⟨k,f,h⟩:=Qe h
     refine Qa hC [.S 24 (.b true),.n 4,.cm (.fn) [] [] [] [.d,.d,.d] [] (.b k),.n 3,.K [4] []] rfl ⟨(tc_ e),(Qa3 _ _ f)⟩ ?_
     cases h
     exact AK.met rfl
    refine Qa hC [.S 24 (.b false),.n 8,.K [4] []] rfl (tc_ e) ?_
    cases h
    exact AK.met rfl
   refine Qa hC [.S 17 (.b false),.n 15,.K [4] []] rfl (tc_ c) ?_
   cases h
   exact AK.met rfl
  cases h
  exact AK.met rfl
 rintro σ rfl
 replace h:QcG g=some r:=h
 refine tg_ hC [.n 2] rfl ?_
 cases h
 exact d1_ rfl rfl tt_
def QiB (a:(List Qi))(o:(List Int))(b:(Int×Qa8))(d:(Int×Qa8))(c:(Int×Qae)):Option Bool:=
 bif ((a.length:Int)==3)then
 (idx a 0).bind fun e=>
 bif (e.Id==2)then
 (idx a 2).bind fun f=>
 bif (f.Id==9)then
 (QfD a 5).bind fun g=>
 bif (g==1)then
 (QfD a 4).bind fun h=>
 bif (h==(-1))then
 (Qiq a 3).bind fun i=>
 (Qh1 i ([9,2,5]:List Int)).bind fun j=>
 bif j then
 (QbP a 10).bind fun k=>
 bif k then
 (QbP a 9).bind fun l=>
 bif (!l)then
 (QaP a 5).bind fun m=>
 bif ((m.length:Int)==2)then
 bif ((o.length:Int)==56)then
 bif (b.2.Do==6)then
 bif (b.1==0)then
 bif (d.1==4)then
 bif (c.1==0)then
 (Qb9 c.2 (Qae.mk ([([(1,2)]:List (Int×Int)),([]:QBg)]:List QBg) a 10 4)).bind fun n=>
 some n
 else
 some false
 else
 some false
 else
 some false
 else
 some false
 else
 some false
 else
 some false
 else
 some false
 else
 some false
 else
 some false
 else
 some false
 else
 some false
 else
 some false
 else
 some false
 else
 some false
def QdD (a:Bool):Option Bool:=
 some a
def QeV  : Option Bool:=
 (Qd5 5 3).bind fun h=>
 (QaL ([]:List Qi) h).bind fun i=>
 (Qd5 2 3).bind fun j=>
 (QaL i j).bind fun k=>
 (Qd5 9 1).bind fun l=>
 (QaL k l).bind fun g=>
 (QeM (Qa8.mk 6 0 (Qat.mk 0 ([]:(List Int)) ([]:(List Int)) ([]:(List Int))) 0)).bind fun a=>
 bif ((a.length:Int) != 56)then
 some false
 else
 (QcP a).bind fun b=>
 (chk (decide (0≤1)&&decide (1≤a.length)&&decide (a.length≤a.length))).bind fun _=>
 (QcP ((a.drop 1).take (a.length-1))).bind fun c=>
 (QeN (Qae.mk ([([(1,2)]:List (Int×Int)),([]:QBg)]:List QBg) g 10 4)).bind fun d=>
 (QeP d).bind fun e=>
 (QiB g a b c e).bind (fun f=>QdD f)
theorem QiC  {r:Bool}(h:QeV  = some r):Qh prog 9 [] [] (Qp (.b r) []):=by
 refine Qh.walk 118 func9 rfl rfl rfl fun C hC=>?_
 obtain⟨x3,a6,h⟩:=Qe h
 obtain⟨x4,a7,h⟩:=Qe h
 obtain⟨x5,a8,h⟩:=Qe h
 obtain⟨x6,a9,h⟩:=Qe h
 obtain⟨x7,b0,h⟩:=Qe h
 obtain⟨z,b1,h⟩:=Qe h
 obtain⟨H,b2,h⟩:=Qe h
 refine Qa hC [.n 7,.o (.c false [.d,.d] (.agg (Qc x3))),.o (.co false [.n 11,.d] 11 (x4.map Qc) x4.length),.o (.c false [.d,.d] (.agg (Qc x5))),.frz 11 (x4.map Qc) [11] [],.o (.co false [.d,.d] 11 (x6.map Qc) x6.length),.o (.c false [.d,.d] (.agg (Qc x7))),.frz 13 (x6.map Qc) [13] [],.o (.co false [.d,.d] 11 (z.map Qc) z.length),.n 5,.v .no [none,none,none,some 1,some 1,some 1,none] (.agg (QP (Qa8.mk 6 0 (Qat.mk 0 ([]:(List Int)) ([]:(List Int)) ([]:(List Int))) 0))),.o (.co false [.d] 1 (H.map Qn) H.length),.n 11] rfl ⟨⟨⟨⟨⟨⟨⟨⟨⟨⟨tt_,(Qd6 _ _ a6)⟩,⟨(Qa6 _ _ a7),Qk,.inl rfl⟩⟩,(Qd6 _ _ a8)⟩,⟨tt_,(Qaz Qk)⟩⟩,⟨(Qa6 _ _ a9),Qk,.inl rfl⟩⟩,(Qd6 _ _ b0)⟩,⟨tt_,(Qaz Qk)⟩⟩,⟨(Qa6 _ _ b1),Qk,.inl rfl⟩⟩,rfl⟩,⟨(QgJ _ b2),Qk,.inl rfl⟩⟩ ?_
 rcases QO h with⟨a,h⟩|⟨a,h⟩
 ·refine Qa hC [.T,.n 7] rfl ⟨tt_,a⟩ ?_
  cases h
  exact d1_ rfl rfl tt_
 obtain⟨A,J,h⟩:=Qe h
 obtain⟨y,h⟩:=QbU h
 obtain⟨B,L,h⟩:=Qe h
 obtain⟨D,M,h⟩:=Qe h
 obtain⟨x,N,h⟩:=Qe h
 refine Qa hC [.F,.n 5,.frz 17 (H.map Qn) [2,17,18,22] [],.o (.c false [.d] (.tup [.agg (QP A.2),.I A.1])),.n 5,.O 3 (.var (QP A.2)),.n 6,.o (.any (.sl 1 (((H.drop 1).take (H.length-1)).map Qn)) none),.o (.c false [.d] (.tup [.agg (QP B.2),.I B.1])),.n 5,.O 5 (.var (QP B.2)),.n 5,.v .no [] (.agg (QF (1,2))),.v (.bd []) [] (.sl 2 (([(1,2)]:List (Int×Int)).map QF)),.v (.bd [none,some 2]) [] (.sl 1 (([([(1,2)]:List (Int×Int)),([]:QBg)]:List QBg).map Q6)),.n 1,.v .no [] (.agg [.sl 1 (([([(1,2)]:List (Int×Int)),([]:QBg)]:List QBg).map Q6),.own 15 z.length,.I 10,.I 4]),.n 2,.O 7 (.var [.sl 1 (([([(1,2)]:List (Int×Int)),([]:QBg)]:List QBg).map Q6),.own 15 z.length,.I 10,.I 4]),.n 5,.frz 15 (z.map Qc) [1,15,35,36,38] [7],.cm (.fn) [] [(39,600)] [] [.d] [(600,.arr 1 (D.map Qn))] (.own 600 D.length),.frz 39 (D.map Qn) [39] [],.o (.c false [.d] (.tup [.agg (QX x.2),.I x.1])),.n 5,.O 8 (.var (QX x.2)),.n 4] rfl ⟨⟨⟨⟨⟨⟨⟨⟨⟨⟨⟨⟨⟨⟨⟨⟨⟨tt_,a⟩,⟨⟨⟨⟨tt_,(Qaz Qk)⟩,(Qaz Qk)⟩,(Qaz Qk)⟩,(Qaz Qk)⟩⟩,(QdI _ J)⟩,rfl⟩,(fun σ h1 h2 _=>Stp.sliceD rfl rfl (Qw hC.n rfl) (h1 _ _ rfl) (Qm.es rfl) (Bnd.val (h1 _ _ rfl) (Qbd (Qj9 y)) rfl) (Bnd.none_ Qk) (Qbd (Qka y)) (Nat.le_of_eq Qk.symm) Qlg)⟩,(QdI _ L)⟩,rfl⟩,rfl⟩,rfl⟩,rfl⟩,rfl⟩,rfl⟩,⟨⟨⟨⟨⟨⟨tt_,(Qaz Qk)⟩,(Qaz Qk)⟩,(Qaz Qk)⟩,⟨(Qaz Qk),tt_⟩⟩,⟨(Qaz Qk),tt_⟩⟩,⟨(Qaz Qk),tt_⟩⟩⟩,(QgL _ M)⟩,⟨tt_,(Qaz Qk)⟩⟩,(QgO _ N)⟩,rfl⟩ ?_
 obtain⟨E,P,h⟩:=Qe h
 replace h:QdD E=some r:=h
 refine AK.meetX (fun σ=>σ=⟨[(0,.b E)],[]⟩) ?_ ?_
 ·replace h:=P
  refine Qa hC [.n 2,.o (.ln z.length),.n 2] rfl ⟨tt_,Qk⟩ ?_
  rcases QO h with⟨e,h⟩|⟨e,h⟩
  ·obtain⟨b3,U,h⟩:=Qe h
   refine Qa hC [.S 46 (.b true),.n 1,.o (.row (Qc b3)),.n 5] rfl ⟨(tc_ e),(Qa5 U)⟩ ?_
   rcases QO h with⟨f,h⟩|⟨f,h⟩
   ·obtain⟨b4,W,h⟩:=Qe h
    refine Qa hC [.S 53 (.b true),.n 1,.o (.row (Qc b4)),.n 5] rfl ⟨(tc_ f),(Qa5 W)⟩ ?_
    rcases QO h with⟨g,h⟩|⟨g,h⟩
    ·obtain⟨b5,X,h⟩:=Qe h
     refine Qa hC [.S 60 (.b true),.n 1,.o (.c false [.d,.d] (.I b5)),.n 3] rfl ⟨(tc_ g),(Qf5 _ _ X)⟩ ?_
     rcases QO h with⟨i,h⟩|⟨i,h⟩
     ·obtain⟨b6,Y,h⟩:=Qe h
      refine Qa hC [.S 65 (.b true),.n 1,.o (.c false [.d,.d] (.I b6)),.n 3] rfl ⟨(tc_ i),(Qf5 _ _ Y)⟩ ?_
      rcases QO h with⟨j,h⟩|⟨j,h⟩
      ·obtain⟨G,Z,h⟩:=Qe h
       obtain⟨b7,a0,h⟩:=Qe h
       refine Qa hC [.S 70 (.b true),.n 1,.o (.co false [.d,.d] 1 (G.map Qo) G.length),.v (.bd []) [] (.sl 1 (([9,2,5]:List Int).map Qo)),.o (.c true [.o (G.map Qo),.d] (.b b7)),.n 2] rfl ⟨⟨⟨(tc_ j),⟨(Qjp (fun _=>0) _ _ Z),Qk,.inl rfl⟩⟩,rfl⟩,⟨(Qmz rfl),(Qi3 _ _ a0)⟩⟩ ?_
       rcases QO h with⟨k,h⟩|⟨k,h⟩
       ·obtain⟨b8,a1,h⟩:=Qe h
        refine Qa hC [.S 76 (.b true),.n 1,.o (.c false [.d,.d] (.b b8)),.n 2] rfl ⟨(tc_ k),(QdC _ _ a1)⟩ ?_
        rcases QO h with⟨l,h⟩|⟨l,h⟩
        ·obtain⟨b9,a2,h⟩:=Qe h
         refine Qa hC [.S 80 (.b true),.n 1,.o (.c false [.d,.d] (.b b9)),.n 3] rfl ⟨(tc_ l),(QdC _ _ a2)⟩ ?_
         rcases QO h with⟨m,h⟩|⟨m,h⟩
         ·obtain⟨a3,a4,h⟩:=Qe h
          refine Qa hC [.S 85 (.b true),.n 1,.o (.co false [.d,.d] 11 (a3.map Qc) a3.length),.n 4] rfl ⟨(tc_ m),⟨(Qbe _ _ a4),Qk,.inl rfl⟩⟩ ?_
          refine bg_ h (fun p h=>Qa hC [.S 91 (.b true),.n 1,.o (.ln H.length),.n 3] rfl ⟨(tc_ p),Qk⟩ ?_) fun p h=>Qa hC [.S 91 (.b false),.n 28,.K [0] []] rfl (tc_ p) ?_
          ·refine bg_ h (fun q h=>Qa hC [.S 96 (.b true),.n 5] rfl (tc_ q) ?_) fun q h=>Qa hC [.S 96 (.b false),.n 23,.K [0] []] rfl (tc_ q) ?_
           ·refine bg_ h (fun s h=>Qa hC [.S 101 (.b true),.n 4] rfl (tc_ s) ?_) fun s h=>Qa hC [.S 101 (.b false),.n 18,.K [0] []] rfl (tc_ s) ?_
            ·refine bg_ h (fun t h=>Qa hC [.S 105 (.b true),.n 4] rfl (tc_ t) ?_) fun t h=>Qa hC [.S 105 (.b false),.n 14,.K [0] []] rfl (tc_ t) ?_
             ·refine bg_ h (fun u h=>Qa hC [.S 109 (.b true),.n 4] rfl (tc_ u) ?_) fun u h=>Qa hC [.S 109 (.b false),.n 10,.K [0] []] rfl (tc_ u) ?_
              ·rcases QO h with⟨w,h⟩|⟨w,h⟩
               ·obtain⟨c0,a5,h⟩:=Qe h
                refine Qa hC [.S 113 (.b true),.v .no [] (.agg (QX x.2)),.v .no [] (.agg (QX (Qae.mk ([([(1,2)]:List (Int×Int)),([]:QBg)]:List QBg) z 10 4))),.o (.c false [.d,.d] (.b c0)),.n 3,.K [0] []] rfl ⟨⟨⟨(tc_ w),rfl⟩,rfl⟩,(Qej _ _ a5)⟩ ?_
                cases h
                exact AK.met rfl
               refine Qa hC [.S 113 (.b false),.n 6,.K [0] []] rfl (tc_ w) ?_
               cases h
               exact AK.met rfl
              cases h
              exact AK.met rfl
             cases h
             exact AK.met rfl
            cases h
            exact AK.met rfl
           cases h
           exact AK.met rfl
          cases h
          exact AK.met rfl
         refine Qa hC [.S 85 (.b false),.n 34,.K [0] []] rfl (tc_ m) ?_
         cases h
         exact AK.met rfl
        refine Qa hC [.S 80 (.b false),.n 39,.K [0] []] rfl (tc_ l) ?_
        cases h
        exact AK.met rfl
       refine Qa hC [.S 76 (.b false),.n 43,.K [0] []] rfl (tc_ k) ?_
       cases h
       exact AK.met rfl
      refine Qa hC [.S 70 (.b false),.n 49,.K [0] []] rfl (tc_ j) ?_
      cases h
      exact AK.met rfl
     refine Qa hC [.S 65 (.b false),.n 54,.K [0] []] rfl (tc_ i) ?_
     cases h
     exact AK.met rfl
    refine Qa hC [.S 60 (.b false),.n 59,.K [0] []] rfl (tc_ g) ?_
    cases h
    exact AK.met rfl
   refine Qa hC [.S 53 (.b false),.n 66,.K [0] []] rfl (tc_ f) ?_
   cases h
   exact AK.met rfl
  refine Qa hC [.S 46 (.b false),.n 73,.K [0] []] rfl (tc_ e) ?_
  cases h
  exact AK.met rfl
 rintro σ rfl
 replace h:QdD E=some r:=h
 refine tg_ hC [.n 2] rfl ?_
 cases h
 exact d1_ rfl rfl tt_
def Qa7 (b:(List Qi))(f:Int)(a:Int):Option ((Int×Int)⊕Int):=
 bif (decide (a<(b.length:Int)))then
 (idx b a).bind fun c=>
 (idx b a).bind fun d=>
 (idx b a).bind fun e=>
 some (.inl ((w64 ((w64 ((w64 (f+(c.Mode.Vars.length:Int)))+(d.Mode.Ins.length:Int)))+(e.Mode.Outs.length:Int))),(w64 (a+1))))
 else
 some (.inr f)
def QgT (a:Int):Option Bool:=
 some (decide (a≤1000))
def Qdp (a:(List Qi)):Option Bool:=
 bif (decide (80<(a.length:Int)))then
 some false
 else
 (Q1 (fun st=>Qa7 a st.1 st.2) (0,0)).bind (fun q=>QgT q)
theorem QgU (f){r}(h:Qdp f=some r):Qh prog 10 [.sl 11 (f.map Qc)] [] (Qp (.b r) []):=by
 refine Qh.walk 41 func10 rfl rfl rfl fun C hC=>?_
 refine Qa hC [.n 9,.o (.ln f.length),.n 3] rfl ⟨tt_,Qk⟩ ?_
 refine bg_ h (fun d h=>Qa hC [.T,.n 7,.K [2] []] rfl ⟨tt_,d⟩ ?_) fun d h=>Qa hC [.F,.n 14,.K [0,3,4] []] rfl ⟨tt_,d⟩ ?_
 ·cases h
  exact d1_ rfl rfl tt_
 obtain⟨u,g,h⟩:=Qe h
 refine AK.loop (body:=(fun st=>Qa7 f st.1 st.2)) (fun st σ=>σ=⟨[(0,.sl 11 (f.map Qc)),(3,.I st.1),(4,.I st.2)],[]⟩) (fun q e σ=>e=.exit 0∧σ=⟨[(3,.I q)],[]⟩) g rfl ?_ ?_
 ·rintro ⟨v,w⟩ o σ rfl h
  refine Qa hC [.n 5,.o (.ln f.length),.n 3] rfl ⟨tt_,Qk⟩ ?_
  rcases QO h with⟨c,h⟩|⟨c,h⟩
  ·obtain⟨i,j,h⟩:=Qe h
   obtain⟨k,l,h⟩:=Qe h
   obtain⟨p,t,h⟩:=Qe h
   refine Qa hC [.T,.n 4,.K [0,3,4] []] rfl ⟨tt_,c⟩ ?_
   refine AK.draw2 Qm hC mixed [.N,.N,.N,.a (.row (Qc i)) none false,.N,.N,.N,.a (.ln i.Mode.Vars.length) none false,.N,.N,.N,.a (.row (Qc k)) none false,.N,.N,.N,.a (.ln k.Mode.Ins.length) none false,.N,.N,.N,.a (.row (Qc p)) none false,.N,.N,.N,.a (.ln p.Mode.Outs.length) none false,.N,.m .s] [] [] [0,3,4] [] rfl rfl rfl ⟨⟨⟨⟨⟨⟨tt_,(Qa5 j)⟩,Qk⟩,(Qa5 l)⟩,Qk⟩,(Qa5 t)⟩,Qk⟩ rfl (by kernel_rfl) rfl rfl rfl ?_
   refine tg_ hC [.n 7,.K [0,3,4] []] rfl ?_
   cases h
   exact QaU rfl rfl
  refine Qa hC [.F,.n 2,.K [3] []] rfl ⟨tt_,c⟩ ?_
  cases h
  exact QaN rfl (an_ rfl rfl)
 replace h:QgT u=some r:=h
 rintro e σ ⟨rfl,rfl⟩
 refine tg_ hC [.n 10] rfl ?_
 cases h
 exact d1_ rfl rfl tt_
def QdP (b:Bool)(c:Bool)(d:Qi)(e:Qi)(f:(List Qi)):Option Bool:=
 bif (!b)then
 some true
 else
 bif (!c)then
 some true
 else
 bif (d.Id==e.Id)then
 some true
 else
 (QbP f 1099511627776).bind fun a=>
 some (!a)
def QdQ (g:Bool)(a:(List Qi))(b:(List Qi))(c:(List Qi))(d:(List Qi)):Option Bool:=
 bif g then
 (Qb9 (Qae.mk ([]:QMk) a 0 0) (Qae.mk ([]:QMk) b 0 0)).bind fun e=>
 bif e then
 (Qb9 (Qae.mk ([]:QMk) c 0 0) (Qae.mk ([]:QMk) d 0 0)).bind fun f=>
 some f
 else
 some false
 else
 some false
def Qca (a:Bool):Option Bool:=
 some a
def Qbf (m:Bool)(d:(List Qi))(b:Qi)(c:Qi)(n:Bool):Option Bool:=
 bif n then
 some m
 else
 (QaL d b).bind fun e=>
 (QaL e c).bind fun a=>
 (QaL d c).bind fun f=>
 (QaL f b).bind fun g=>
 (QaP a b.Id).bind fun h=>
 (QaP h c.Id).bind fun i=>
 (QaP d c.Id).bind fun j=>
 (QaP j b.Id).bind fun k=>
 (QdQ m a g i k).bind (fun l=>Qca l)
def Qbc (a:(List Qi))(b:Qi)(c:Qi):Option Bool:=
 (QeV).bind fun d=>
 (Qdp a).bind fun e=>
 (Qdp ([b,c]:List Qi)).bind fun f=>
 (QdP e f b c a).bind (fun g=>Qbf d a b c g)
theorem QgV (w q s){r}(h:Qbc w q s=some r):Qh prog 7 [.sl 11 (w.map Qc),.agg (Qc q),.agg (Qc s)] [] (Qp (.b r) []):=by
 refine Qh.walk 79 func7 rfl rfl rfl fun C hC=>?_
 obtain⟨Y,Z,h⟩:=Qe h
 obtain⟨x7,a0,h⟩:=Qe h
 obtain⟨x8,a1,h⟩:=Qe h
 refine Qa hC [.n 9,.o (.c false [] (.b Y)),.n 6,.o (.c false [.d] (.b x7)),.n 5,.v .no [] (.agg (Qc q)),.v .no [] (.agg (Qc s)),.v (.bd []) [] (.sl 11 (([q,s]:List Qi).map Qc)),.o (.c false [.d] (.b x8)),.n 5] rfl ⟨⟨⟨⟨⟨⟨tt_,(QiC  Z)⟩,(QgU _ a0)⟩,rfl⟩,rfl⟩,rfl⟩,(QgU _ a1)⟩ ?_
 obtain⟨x9,x,h⟩:=Qe h
 replace h:Qbf Y w q s x9=some r:=h
 refine AK.meetX (fun σ=>σ=⟨[(0,.sl 11 (w.map Qc)),(4,.loc 4 0 0),(5,.loc 5 0 0),(7,.b Y),(38,.b x9)],[(4,.var (Qc q)),(5,.var (Qc s))]⟩) ?_ ?_
 ·replace h:=x
  refine tg_ hC [.n 4] rfl ?_
  refine bg_ h (fun e h=>Qa hC [.S 23 (.b true),.n 16,.K [0,4,5,7,38] [4,5]] rfl (tc_ e) ?_) fun e h=>Qa hC [.S 23 (.b false),.n 4] rfl (tc_ e) ?_
  ·cases h
   exact AK.met rfl
  refine bg_ h (fun f h=>Qa hC [.S 27 (.b true),.n 12,.K [0,4,5,7,38] [4,5]] rfl (tc_ f) ?_) fun f h=>Qa hC [.S 27 (.b false),.n 7] rfl (tc_ f) ?_
  ·cases h
   exact AK.met rfl
  rcases QO h with⟨g,h⟩|⟨g,h⟩
  ·refine Qa hC [.S 34 (.b true),.n 5,.K [0,4,5,7,38] [4,5]] rfl (tc_ g) ?_
   cases h
   exact AK.met rfl
  obtain⟨a2,y,h⟩:=Qe h
  refine Qa hC [.S 34 (.b false),.n 1,.o (.c false [.d,.d] (.b a2)),.n 3,.K [0,4,5,7,38] [4,5]] rfl ⟨(tc_ g),(QdC _ _ y)⟩ ?_
  cases h
  exact AK.met rfl
 rintro σ rfl
 replace h:Qbf Y w q s x9=some r:=h
 refine tg_ hC [.n 1] rfl ?_
 rcases QO h with⟨i,h⟩|⟨i,h⟩
 ·refine Qa hC [.T,.n 8] rfl ⟨tt_,i⟩ ?_
  cases h
  exact d1_ rfl rfl tt_
 obtain⟨z,A,h⟩:=Qe h
 obtain⟨t,B,h⟩:=Qe h
 refine Qa hC [.F,.n 3,.K [0,4,5,7] [4,5]] rfl ⟨tt_,i⟩ ?_
 refine AK.draw2 Qm hC mixed [.N,.a .no (some ([],.agg (Qc q))) false,.a (.cd false [.d,.d] 11 (z.map Qc) z.length) none false,.a .no (some ([],.agg (Qc s))) false,.a (.co false [.d,.d] 11 (t.map Qc) t.length) none false,.N] [] [] [0,4,5,7,10] [4,5,44] rfl rfl rfl ⟨⟨⟨⟨tt_,rfl⟩,⟨(Qa6 _ _ A),Qk⟩⟩,rfl⟩,⟨(Qa6 _ _ B),Qk,.inl rfl⟩⟩ rfl (by kernel_rfl) rfl rfl rfl ?_
 obtain⟨D,E,h⟩:=Qe h
 obtain⟨j,G,h⟩:=Qe h
 refine tg_ hC [.n 2,.K [0,4,5,7,10] [4,5,44]] rfl ?_
 refine AK.draw2 Qm hC mixed [.N,.a .no (some ([],.agg (Qc s))) false,.a (.cd false [.d,.d] 11 (D.map Qc) D.length) none false,.a .no (some ([],.agg (Qc q))) false,.a (.co false [.d,.d] 11 (j.map Qc) j.length) none false,.N] [] [] [0,4,5,7,10,11] [4,5,44,49] rfl rfl rfl ⟨⟨⟨⟨tt_,rfl⟩,⟨(Qa6 _ _ E),Qk⟩⟩,rfl⟩,⟨(Qa6 _ _ G),Qk,.inl rfl⟩⟩ rfl (by kernel_rfl) rfl rfl rfl ?_
 obtain⟨H,J,h⟩:=Qe h
 obtain⟨k,L,h⟩:=Qe h
 refine Qa hC [.n 2,.frz 44 (t.map Qc) [10] [],.K [0,4,5,7,10,11] [4,5,49]] rfl ⟨tt_,⟨tt_,(Qaz Qk)⟩⟩ ?_
 refine AK.draw2 Qm hC mixed [.N,.N,.N,.a (.cd false [.d,.d] 11 (H.map Qc) H.length) none false,.N,.N,.a (.co false [.d,.d] 11 (k.map Qc) k.length) none false,.N] [] [] [0,4,5,7,10,11,12] [4,5,49,56] rfl rfl rfl ⟨⟨tt_,⟨(Qbe _ _ J),Qk⟩⟩,⟨(Qbe _ _ L),Qk,.inl rfl⟩⟩ rfl (by kernel_rfl) rfl rfl rfl ?_
 obtain⟨M,O,h⟩:=Qe h
 obtain⟨l,P,h⟩:=Qe h
 refine tg_ hC [.n 2,.K [0,4,5,7,10,11,12] [4,5,49,56]] rfl ?_
 refine AK.draw2 Qm hC mixed [.N,.N,.N,.a (.cd false [.d,.d] 11 (M.map Qc) M.length) none false,.N,.N,.a (.co false [.d,.d] 11 (l.map Qc) l.length) none false,.N] [] [] [7,10,11,12,13] [49,56,63] rfl rfl rfl ⟨⟨tt_,⟨(Qbe _ _ O),Qk⟩⟩,⟨(Qbe _ _ P),Qk,.inl rfl⟩⟩ rfl (by kernel_rfl) rfl rfl rfl ?_
 refine tg_ hC [.n 2] rfl ?_
 obtain⟨u,U,h⟩:=Qe h
 replace h:Qca u=some r:=h
 refine AK.meetX (fun σ=>σ=⟨[(6,.b u)],[]⟩) ?_ ?_
 ·replace h:=U
  refine tg_ hC [.n 3] rfl ?_
  rcases QO h with⟨m,h⟩|⟨m,h⟩
  ·obtain⟨a3,W,h⟩:=Qe h
   refine Qa hC [.S 65 (.b true),.n 1,.v .no [some 1,none,none,none] (.agg (QX (Qae.mk ([]:QMk) t 0 0))),.n 1,.v .no [] (.agg [.lit (.slice none 0 0),.own 49 j.length,.I 0,.I 0]),.frz 49 (j.map Qc) [11,68,69] [],.denil 69 [some 1,none,none,none],.S 69 (.agg (QX (Qae.mk ([]:QMk) j 0 0))),.cm (.fn) [] [] [] [.d,.d] [] (.b a3),.n 2] rfl ⟨⟨⟨⟨⟨(tc_ m),rfl⟩,rfl⟩,⟨⟨⟨tt_,(Qaz Qk)⟩,(Qaz Qk)⟩,⟨(Qaz Qk),tt_⟩⟩⟩,rfl⟩,(Qej _ _ W)⟩ ?_
   rcases QO h with⟨p,h⟩|⟨p,h⟩
   ·obtain⟨a4,X,h⟩:=Qe h
    refine Qa hC [.S 72 (.b true),.n 1,.v .no [] (.agg [.lit (.slice none 0 0),.own 56 k.length,.I 0,.I 0]),.n 1,.v .no [] (.agg [.lit (.slice none 0 0),.own 63 l.length,.I 0,.I 0]),.frz 56 (k.map Qc) [12,73,74] [],.frz 63 (l.map Qc) [13,75,76] [],.denil 74 [some 1,none,none,none],.S 74 (.agg (QX (Qae.mk ([]:QMk) k 0 0))),.denil 76 [some 1,none,none,none],.S 76 (.agg (QX (Qae.mk ([]:QMk) l 0 0))),.cm (.fn) [] [] [] [.d,.d] [] (.b a4),.n 3,.K [6] []] rfl ⟨⟨⟨⟨⟨⟨⟨(tc_ p),rfl⟩,rfl⟩,⟨⟨⟨tt_,(Qaz Qk)⟩,(Qaz Qk)⟩,⟨(Qaz Qk),tt_⟩⟩⟩,⟨⟨⟨tt_,(Qaz Qk)⟩,(Qaz Qk)⟩,⟨(Qaz Qk),tt_⟩⟩⟩,rfl⟩,rfl⟩,(Qej _ _ X)⟩ ?_
    cases h
    exact AK.met rfl
   refine Qa hC [.S 72 (.b false),.n 8,.K [6] []] rfl (tc_ p) ?_
   cases h
   exact AK.met rfl
  refine Qa hC [.S 65 (.b false),.n 15,.K [6] []] rfl (tc_ m) ?_
  cases h
  exact AK.met rfl
 rintro σ rfl
 replace h:Qca u=some r:=h
 refine tg_ hC [.n 2] rfl ?_
 cases h
 exact d1_ rfl rfl tt_

end Go.Proofs
