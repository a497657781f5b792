/- What functions of the program do, as functions over plain data, and the walks that show it: printed by a program. -/
import Derived.Test.YtbcmaoldnhphlaaO4V3
import Derived.Test.YtbcmaoldnhphlaaProg
set_option linter.unusedVariables false
set_option linter.unusedSimpArgs false
set_option linter.unusedSectionVars false
set_option linter.deprecated false
set_option maxRecDepth 100000
set_option maxHeartbeats 4000000
noncomputable section
namespace Go.Proofs
open Go Go.RowKit Go.Vm Go.Proofs.Try
structure QX where
 Task:Int
 Vars:(List Int)
 Ins:(List Int)
 Outs:(List Int)
structure Qab where
 Most:Int
 Enough:Int
 Open:Int
 Done:Int
 Failed:Int
structure Qj where
 Id:Int
 Mode:QX
 Batch:Qab
 Until:Int
structure QN where
 M:(List (List (Int×Int)))
 Items:(List Qj)
 Next:Int
 Now:Int
structure Q6 where
 Do:Int
 Id:Int
 Mode:QX
 Num:Int
structure Qc where
 b:(List Int)
 bad:Bool
structure Qf where
 id:Int
 at_:Int
 place:Int
structure Qmw where
 b:(List Int)
 at_:Int
 bad:Bool
def Qp (x:Int):List V:=[.i .i64 x]
def QH (x:(Int×Int)):List V:=[.i .i64 x.1,.i .i64 x.2]
def QS (x:(List (Int×Int))):List V:=[.sl 2 (x.map QH)]
def Qkz (x:(List (List (Int×Int)))):List V:=[.sl 1 (x.map QS)]
def Qm5 (x:(List Int)):List V:=[.sl 1 (x.map Qp)]
def Qae (x:QX):List V:=[.i .i64 x.Task,.sl 1 (x.Vars.map Qp),.sl 1 (x.Ins.map Qp),.sl 1 (x.Outs.map Qp)]
def Qat (x:Qab):List V:=[.i .i64 x.Most,.i .i64 x.Enough,.i .i64 x.Open,.i .i64 x.Done,.i .i64 x.Failed]
def Qd (x:Qj):List V:=[.i .i64 x.Id,.i .i64 x.Mode.Task,.sl 1 (x.Mode.Vars.map Qp),.sl 1 (x.Mode.Ins.map Qp),.sl 1 (x.Mode.Outs.map Qp),.i .i64 x.Batch.Most,.i .i64 x.Batch.Enough,.i .i64 x.Batch.Open,.i .i64 x.Batch.Done,.i .i64 x.Batch.Failed,.i .i64 x.Until]
def QjR (x:(List Qj)):List V:=[.sl 11 (x.map Qd)]
def QC (x:QN):List V:=[.sl 1 (x.M.map QS),.sl 11 (x.Items.map Qd),.i .i64 x.Next,.i .i64 x.Now]
def QA (x:Q6):List V:=[.i .i64 x.Do,.i .i64 x.Id,.i .i64 x.Mode.Task,.sl 1 (x.Mode.Vars.map Qp),.sl 1 (x.Mode.Ins.map Qp),.sl 1 (x.Mode.Outs.map Qp),.i .i64 x.Num]
def Qn (x:Int):List V:=[.i .u8 x]
def Qlq (x:(List Int)):List V:=[.sl 1 (x.map Qn)]
def Qb (x:Qc):List V:=[.sl 1 (x.b.map Qn),.b x.bad]
def Qg (x:Qf):List V:=[.i .i64 x.id,.i .i64 x.at_,.i .i64 x.place]
theorem Qph (a0 a1 a2 a3 a4 b0 b1 b2 b3 b4:Int):EqT Try.prog 27 [.int .i64 a0,.int .i64 a1,.int .i64 a2,.int .i64 a3,.int .i64 a4] [.int .i64 b0,.int .i64 b1,.int .i64 b2,.int .i64 b3,.int .i64 b4] ((a0==b0)&&((a1==b1)&&((a2==b2)&&((a3==b3)&&(a4==b4))))):=by
 refine⟨by kernel_rfl,fun w=>?_⟩
 have u3:=Try.underlying3
 have g3:=Try.isAgg3
 have z3:=Try.sizeOf3
 have hS:Try.prog.underlying 27=some (.struct (Try.prog.fieldsOf 27)):=by kernel_rfl
 have hp:Try.prog.stoodInHeld 27=false:=by kernel_rfl
 show(Op.equalIn (9999+1) 27 (.agg #[.int .i64 a0,.int .i64 a1,.int .i64 a2,.int .i64 a3,.int .i64 a4]) (.agg #[.int .i64 b0,.int .i64 b1,.int .i64 b2,.int .i64 b3,.int .i64 b4])).run Try.prog w=_
 rw [run_equalIn_agg w 9999 27 _ _ hS hp]
 simp only [Program.fieldsOf,Try.underlying27]
 go_simp
 by_cases h0:a0=b0<;>by_cases h1:a1=b1<;>by_cases h2:a2=b2<;>by_cases h3:a3=b3<;>by_cases h4:a4=b4<;>simp [h0,h1,h2,h3,h4]
theorem Qpi (a0 a1 b0 b1:Int):EqT Try.prog 64 [.int .i64 a0,.int .i64 a1] [.int .i64 b0,.int .i64 b1] ((a0==b0)&&(a1==b1)):=by
 refine⟨by kernel_rfl,fun w=>?_⟩
 have u3:=Try.underlying3
 have g3:=Try.isAgg3
 have z3:=Try.sizeOf3
 show(Op.equalIn (9999+1) 64 (.agg #[.int .i64 a0,.int .i64 a1]) (.agg #[.int .i64 b0,.int .i64 b1])).run Try.prog w=_
 rw [Op.equalIn]
 simp only [Sem.run_bind,run_underlying Try.underlying64,Result.andThen_ok]
 simp only [Std.Legacy.Range.forIn_eq_forIn_range',Std.Legacy.Range.size,Nat.sub_zero,Nat.add_sub_cancel,Nat.div_one,List.range'_succ,List.range'_zero,List.forIn_cons,List.forIn_nil]
 go_simp
 by_cases h0:a0=b0<;>by_cases h1:a1=b1<;>simp [h0,h1]
def Qm6 : Go.Shelf.Ren:=⟨fun | 22=>39 | 29=>80 | 30=>81 | n=>n,fun | 24=>22 | 9=>29 | n=>n,fun n=>n⟩
theorem Qmx : QiQ Try.prog Qm6 "slices.Insert[[]baldric/api.Item,baldric/api.Item]" "slices.overlaps[baldric/api.Item]" 29 11 136 (.agg #[.int .i64 0,.int .i64 0,.slice none 0 0,.slice none 0 0,.slice none 0 0,.int .i64 0,.int .i64 0,.int .i64 0,.int .i64 0,.int .i64 0,.int .i64 0]) where
 mixed:=by kernel_rfl
 f22:=Try.func39.trans (congrArg some (by kernel_rfl))
 f29:=Try.func80.trans (congrArg some (by kernel_rfl))
 nm:=by kernel_rfl
 nx:=by kernel_rfl
 fd:=by kernel_rfl
 t0:=Try.underlying0
 t3:=Try.underlying3
 t4:=Try.underlying4
 t24:=Try.underlying22
 zE:=Try.sizeOf29
 iE:=by kernel_rfl
 zc:=by kernel_rfl
 z0:=by decide
 small:=by decide
theorem Qhn : QiO Try.prog 129 .u64=true:=by kernel_rfl
theorem QnJ : QiO Try.prog 3 .i64=true:=by kernel_rfl
theorem Qjs : QiO Try.prog 5 .u8=true:=by kernel_rfl
theorem Qlr : Qek Try.prog 3 (V.i .i64) (Value.int .i64):=Qek.int (by kernel_rfl)
theorem Qmy : (Qcl Try.prog 120 "Pop" = some (127,true)∧Qjo Try.prog 120=true)∨(Qcl Try.prog 120 "Pop" = some (127,false)∧Qga Try.prog 120=true):=.inl ⟨by kernel_rfl,by kernel_rfl⟩
theorem QlL : (Qcl Try.prog 120 "Push" = some (128,true)∧Qjo Try.prog 120=true)∨(Qcl Try.prog 120 "Push" = some (128,false)∧Qga Try.prog 120=true):=.inl ⟨by kernel_rfl,by kernel_rfl⟩
theorem mixed : Try.prog.follows .mixedOrders=true:=by kernel_rfl
theorem Qls : Qg8 Try.prog 111=some (3,116):=by kernel_rfl
theorem Qn7 : Qg8 Try.prog 74=some (3,4):=by kernel_rfl
theorem QjS : Qcl Try.prog 120 "Len" = some (124,false)∧QgM Try.prog 120 113=true∧QbR Try.prog 113=some false:=⟨by kernel_rfl,by kernel_rfl,by kernel_rfl⟩
theorem Qhc : Qcl Try.prog 120 "Less" = some (125,false)∧QgM Try.prog 120 113=true∧QbR Try.prog 113=some false:=⟨by kernel_rfl,by kernel_rfl,by kernel_rfl⟩
theorem Qhd : Qcl Try.prog 120 "Swap" = some (126,false)∧QgM Try.prog 120 113=true∧QbR Try.prog 113=some false:=⟨by kernel_rfl,by kernel_rfl,by kernel_rfl⟩
theorem Qpj : Try.prog.underlying 23=some (.slice 3):=by kernel_rfl
theorem QkQ : Try.prog.underlying 47=some (.slice 5):=by kernel_rfl
theorem QoM : Try.prog.underlying 116=some (.pointer 118):=by kernel_rfl
theorem QoN : QeH Try.prog 116 (.lit (.pointer none)):=QeH.one (v:=.pointer none) (by kernel_rfl)
theorem QpF : QeH Try.prog 4 (V.b false):=QeH.one (v:=.bool false) (by kernel_rfl)
theorem QpG : Qao Try.prog 3=some [.i .i64 0]:=by kernel_rfl
theorem QpH : Qao Try.prog 5=some [.i .u8 0]:=by kernel_rfl
theorem Qpk : Qao Try.prog 25=some [.i .i64 0,.lit (.slice none 0 0),.lit (.slice none 0 0),.lit (.slice none 0 0)]:=by kernel_rfl
theorem Qpl : Qao Try.prog 27=some [.i .i64 0,.i .i64 0,.i .i64 0,.i .i64 0,.i .i64 0]:=by kernel_rfl
theorem Qpm : Qao Try.prog 29=some [.i .i64 0,.i .i64 0,.lit (.slice none 0 0),.lit (.slice none 0 0),.lit (.slice none 0 0),.i .i64 0,.i .i64 0,.i .i64 0,.i .i64 0,.i .i64 0,.i .i64 0]:=by kernel_rfl
theorem Qpn : Qao Try.prog 43=some [.lit (.slice none 0 0),.lit (.slice none 0 0),.i .i64 0,.i .i64 0]:=by kernel_rfl
theorem Qpo : Qao Try.prog 45=some [.i .i64 0,.i .i64 0,.i .i64 0,.lit (.slice none 0 0),.lit (.slice none 0 0),.lit (.slice none 0 0),.i .i64 0]:=by kernel_rfl
theorem Qpp : Qao Try.prog 64=some [.i .i64 0,.i .i64 0]:=by kernel_rfl
theorem Qpq : Qao Try.prog 66=some [.lit (.slice none 0 0)]:=by kernel_rfl
theorem Qpr : Qao Try.prog 93=some [.lit (.slice none 0 0),.b false]:=by kernel_rfl
theorem Qia : Qao Try.prog 95=some [.lit (.pointer none)]:=by kernel_rfl
theorem QoO : Qao Try.prog 103=some [.lit (.slice none 0 0),.i .i64 0,.b false]:=by kernel_rfl
theorem QoP : Qao Try.prog 115=some [.lit (.slice none 0 0),.lit (.map none)]:=by kernel_rfl
theorem QoQ : Qao Try.prog 116=some [.lit (.pointer none)]:=by kernel_rfl
theorem QoR : Qao Try.prog 118=some [.i .i64 0,.i .i64 0,.i .i64 0]:=by kernel_rfl
theorem Qm7 : Qao Try.prog 140=some [.lit (.pointer none)]:=by kernel_rfl
def tab : Tab:={ ag:=[(3,false),(4,false),(5,false),(22,false),(23,false),(25,true),(27,true),(29,true),(41,false),(43,true),(45,true),(47,false),(64,true),(66,false),(95,false),(111,false),(113,false),(116,false),(140,false)],sz:=[(3,1),(4,1),(22,1),(23,1),(25,4),(27,5),(29,11),(41,1),(43,4),(45,7),(47,1),(64,2),(113,1),(116,1)],fo:=[(25,[0,1,2,3]),(27,[0,1,2,3,4]),(29,[0,1,5,10]),(43,[0,1,2,3]),(45,[0,1,2,6]),(93,[0,1]),(103,[0,1,2]),(115,[0,1]),(118,[0,1,2])],sp:=[(25,[(0,1),(1,1),(2,1),(3,1)]),(27,[(0,1),(1,1),(2,1),(3,1),(4,1)]),(29,[(0,1),(1,4),(5,5),(10,1)]),(43,[(0,1),(1,1),(2,1),(3,1)]),(45,[(0,1),(1,1),(2,4),(6,1)]),(93,[(0,1),(1,1)]),(103,[(0,1),(1,1),(2,1)]),(115,[(0,1),(1,1)]),(118,[(0,1),(1,1),(2,1)])],es:=[(22,(29,11,136)),(23,(3,1,8)),(40,(66,1,24)),(41,(66,1,24)),(47,(5,1,1)),(65,(64,2,16)),(66,(64,2,16)),(113,(116,1,8)),(135,(95,1,8)),(141,(140,1,8))],ar:=[(64,(2,1))],zv:=[(3,[.i .i64 0]),(5,[.i .u8 0]),(25,[.i .i64 0,.lit (.slice none 0 0),.lit (.slice none 0 0),.lit (.slice none 0 0)]),(27,[.i .i64 0,.i .i64 0,.i .i64 0,.i .i64 0,.i .i64 0]),(29,[.i .i64 0,.i .i64 0,.lit (.slice none 0 0),.lit (.slice none 0 0),.lit (.slice none 0 0),.i .i64 0,.i .i64 0,.i .i64 0,.i .i64 0,.i .i64 0,.i .i64 0]),(43,[.lit (.slice none 0 0),.lit (.slice none 0 0),.i .i64 0,.i .i64 0]),(45,[.i .i64 0,.i .i64 0,.i .i64 0,.lit (.slice none 0 0),.lit (.slice none 0 0),.lit (.slice none 0 0),.i .i64 0]),(64,[.i .i64 0,.i .i64 0]),(66,[.lit (.slice none 0 0)]),(93,[.lit (.slice none 0 0),.b false]),(95,[.lit (.pointer none)]),(103,[.lit (.slice none 0 0),.i .i64 0,.b false]),(115,[.lit (.slice none 0 0),.lit (.map none)]),(116,[.lit (.pointer none)]),(118,[.i .i64 0,.i .i64 0,.i .i64 0]),(140,[.lit (.pointer none)])],sb:=[9],bo:=[4],cc:=[116,120],en:=[9,10,11,12,13,16,18,19,21,23,24,25,26,27,28,29,30,31,32,33,34,35,36,37,38,39,40,41,43,44,45,46,50,51,54,55,56,57,58,59,60,61,62,63,64,65,66,67,68,69,70,71,72,73,74,75,76,77,78,79,82,84,85,86,87,89,90,91,92,93,94,95,96,97,98,99,100,101,102,104,105,124,125,126,127,128] }
theorem Ql : Qbk Try.prog tab:=Tab.ok (by kernel_rfl) (QcK.2 ⟨QpG,QcK.2 ⟨QpH,QcK.2 ⟨Qpk,QcK.2 ⟨Qpl,QcK.2 ⟨Qpm,QcK.2 ⟨Qpn,QcK.2 ⟨Qpo,QcK.2 ⟨Qpp,QcK.2 ⟨Qpq,QcK.2 ⟨Qpr,QcK.2 ⟨Qia,QcK.2 ⟨QoO,QcK.2 ⟨QoP,QcK.2 ⟨QoQ,QcK.2 ⟨QoR,QcK.2 ⟨Qm7,fun _ h=>(by cases h)⟩⟩⟩⟩⟩⟩⟩⟩⟩⟩⟩⟩⟩⟩⟩⟩)
theorem Qa {C:Ctx}{Q:Exit→St→Prop}{n:Nat}{pt pt1:Pt}{ks ks1:List Fr}{σ σ1:St}{φ:Prop}(hC:QcP Try.prog C n)(ds:List Dir)(e:Vm.go Try.prog C tab n ds pt ks σ True=some ⟨pt1,ks1,σ1,φ⟩)(hφ:φ)(h:AK Try.prog C Q pt1 ks1 σ1):AK Try.prog C Q pt ks σ:=AK.go Ql hC ds e hφ h
abbrev QBg := List (Int×Int)
abbrev QMk := List QBg
abbrev QLL := List (List Int)
abbrev QSB := List (ByteArray×Bool)
theorem tt_ : True:=trivial
theorem an_ {a b:Prop}(x:a)(y:b):a∧b:=⟨x,y⟩
theorem ex_ {α:Sort _}{p:α→Prop}(w:α)(h:p w):∃x,p x:=⟨w,h⟩
end Go.Proofs
namespace Go.Vm
open Go Go.RowKit
noncomputable abbrev Dir.K (a b:List Nat):Dir:=.keep a b
noncomputable abbrev Dir.S (a:Nat)(b:V):Dir:=.say a b
noncomputable abbrev Dir.O (a:Nat)(b:Ob):Dir:=.sayO a b
noncomputable abbrev Dir.T:Dir:=.br true
noncomputable abbrev Dir.F:Dir:=.br false
noncomputable abbrev Dw.N:Dw:=.a .no none false
noncomputable abbrev V.I (n:Int):V:=.i .i64 n
end Go.Vm
namespace Go.Proofs
open Go Go.RowKit Go.Vm Go.Proofs.Try
theorem bg_ {α:Type}{c:Bool}{x y:Option α}{r:α}{G:Prop}(h:(bif c then x else y)=some r)(f:c=true→x=some r→G)(g:c=false→y=some r→G):G:=by
 cases c
 ·exact g rfl h
 exact f rfl h
theorem cb_ {a b:Bool}(h:a=b):V.b a=V.b b:=congrArg V.b h
theorem tc_ {a b:Bool}(h:a=b):True∧V.b a=V.b b:=⟨trivial,congrArg V.b h⟩
def QoS : Exit→Bool
 | .normal=>true
 | .ret=>true
 | _=>false
theorem d1_ {C:Ctx}{t:Nat}{r:V}{outs:List (Nat×Ob)}{σ:St}{e:Exit}(he:QoS e=true)(h:Go.Vm.look σ.fr t=some r)(hs:QcO σ.hp outs):AK Try.prog C (Ql5 Try.prog [.tmp t] (Qq r outs)) (.x e) [] σ:=by
 cases e<;>first | exact AK.done ⟨[r],⟨h,trivial⟩,QaQ hs⟩|cases he
theorem d2_ {C:Ctx}{t u:Nat}{r s:V}{outs:List (Nat×Ob)}{σ:St}{e:Exit}(he:QoS e=true)(h:Go.Vm.look σ.fr t=some r)(k:Go.Vm.look σ.fr u=some s)(hs:QcO σ.hp outs):AK Try.prog C (Ql5 Try.prog [.tmp t,.tmp u] (Qq (.tup [r,s]) outs)) (.x e) [] σ:=by
 cases e<;>first | exact AK.done ⟨[r,s],⟨h,k,trivial⟩,QaQ hs⟩|cases he
theorem tg_ {C:Ctx}{Q:Exit→St→Prop}{n:Nat}{pt pt1:Pt}{ks ks1:List Fr}{σ σ1:St}(hC:QcP Try.prog C n)(ds:List Dir)(e:Vm.go Try.prog C tab n ds pt ks σ True=some ⟨pt1,ks1,σ1,True⟩)(h:AK Try.prog C Q pt1 ks1 σ1):AK Try.prog C Q pt ks σ:=AK.go Ql hC ds e trivial h
theorem QcD {c:Bool}{β:Type}{f:Unit→Option β}{r:β}(h:(chk c).bind f=some r):c=true∧f ()=some r:=by
 obtain⟨_,k,h⟩:=Qe h
 exact⟨QoC k,h⟩
def QeK (b:Int)(a:Int):Option Qj:=
 some (Qj.mk b (QX.mk 0 ([]:(List Int)) ([0]:List Int) ([0]:List Int)) (Qab.mk 2 1 1 0 0) a)
theorem QeL (b a){r}(h:QeK b a=some r):Qh prog 36 [.I b,.I a] [] (Qq (.agg (Qd r)) []):=by
 refine Qh.walk 12 func36 rfl rfl rfl fun C hC=>?_
 refine Qa hC [.n 9,.v .no [] (.agg (Qat (Qab.mk 2 1 1 0 0))),.v (.bd []) [] (.sl 1 (([0]:List Int).map Qp)),.v (.bd []) [] (.sl 1 (([0]:List Int).map Qp)),.v .no [none,some 1,none,none] (.agg (Qae (QX.mk 0 ([]:(List Int)) ([0]:List Int) ([0]:List Int)))),.v .no [] (.agg (Qd (Qj.mk b (QX.mk 0 ([]:(List Int)) ([0]:List Int) ([0]:List Int)) (Qab.mk 2 1 1 0 0) a))),.n 1,.O 4 (.var (Qd (Qj.mk b (QX.mk 0 ([]:(List Int)) ([0]:List Int) ([0]:List Int)) (Qab.mk 2 1 1 0 0) a))),.n 3,.K [4] [4]] rfl ⟨⟨⟨⟨⟨⟨tt_,rfl⟩,rfl⟩,rfl⟩,rfl⟩,rfl⟩,rfl⟩ ?_
 cases h
 exact AK.done (ex_ [_] (an_ (an_ (ex_ _ (ex_ _ (an_ rfl (an_ rfl (Or.inl (an_ (Ql.ag rfl) (an_ (Ql.sz rfl) rfl))))))) tt_) (QaQ tt_)))
def QaZ (a:(List Int)):Option (List Int):=
 (chk (decide (([]:List Int).length+a.length≤4294967296))).bind fun _=>
 some (([]:List Int)++a)
theorem Qb0 (a){r}(h:QaZ a=some r):Qh prog 82 [.sl 1 (a.map Qp)] [] (Qq (.own 600 r.length) [(600,.arr 1 (r.map Qp))]):=by
 refine Qh.walk 8 func82 rfl rfl rfl fun C hC=>?_
 unfold QaZ at h
 refine tg_ hC [.n 9] rfl ?_
 refine AK.eqNil rfl rfl rfl (Qw hC.n rfl) rfl rfl Qpj ?_ ?_
 ·intro b
  replace h:some ([]:List Int)=some r:=by simpa [chk,List.map_eq_nil_iff.1 b] using h
  refine Qa hC [.n 10,.adopt 2 600 1,.O 600 (.arr 1 (([]:List Int).map Qp)),.S 2 (.own 600 ([]:List Int).length)] rfl ⟨⟨tt_,rfl⟩,rfl⟩ ?_
  cases h
  exact d1_ rfl rfl ⟨rfl,tt_⟩
 obtain⟨c,h⟩:=QcD h
 refine Qa hC [.n 8,.O 5 (.arr 1 (([]:List Int).map Qp)),.S 5 (.own 5 ([]:List Int).length),.n 1,.app ((([]:List Int)++a).map Qp) (([]:List Int)++a).length,.n 4,.K [2] [5],.ren 5 600] rfl ⟨⟨⟨tt_,rfl⟩,rfl⟩,⟨Qk,Qd7 c Qk,QcQ,Qfn Qk⟩⟩ ?_
 cases h
 exact d1_ rfl rfl ⟨rfl,tt_⟩
def Qe8 (a:Qj):Option Qj:=
 (QaZ a.Mode.Vars).bind fun b=>
 (QaZ a.Mode.Ins).bind fun c=>
 (QaZ a.Mode.Outs).bind fun d=>
 some (Qj.mk a.Id (QX.mk a.Mode.Task b c d) a.Batch a.Until)
theorem QfJ (b){r}(h:Qe8 b=some r):Qh prog 40 [.agg (Qd b)] [] (Qq (.agg (Qd r)) []):=by
 refine Qh.walk 22 func40 rfl rfl rfl fun C hC=>?_
 obtain⟨c,g,h⟩:=Qe h
 obtain⟨e,i,h⟩:=Qe h
 obtain⟨f,j,h⟩:=Qe h
 refine tg_ hC [.n 7,.K [1,2] [1,2]] rfl ?_
 refine AK.draw2 Ql hC mixed [.N,.N,.N,.a (.cd false [.d] 1 (c.map Qp) c.length) none false,.N,.N,.N,.a (.cd false [.d] 1 (e.map Qp) e.length) none false,.N,.N,.N,.a (.cd false [.d] 1 (f.map Qp) f.length) none false,.N,.N,.m .s,.N,.N,.m .s,.N,.N,.m .s] [] [] [1,2] [1,2] rfl rfl rfl ⟨⟨⟨tt_,⟨(Qb0 _ g),Qk⟩⟩,⟨(Qb0 _ i),Qk⟩⟩,⟨(Qb0 _ j),Qk⟩⟩ rfl (by kernel_rfl) rfl rfl rfl ?_
 refine Qa hC [.O 1 (.var (Qd (Qj.mk b.Id (QX.mk b.Mode.Task c e f) b.Batch b.Until))),.n 3,.v .no [] (.agg (Qd (Qj.mk b.Id (QX.mk b.Mode.Task c e f) b.Batch b.Until))),.n 1,.O 2 (.var (Qd (Qj.mk b.Id (QX.mk b.Mode.Task c e f) b.Batch b.Until))),.n 3,.K [2] [2]] rfl ⟨⟨⟨tt_,rfl⟩,rfl⟩,rfl⟩ ?_
 cases h
 exact AK.done (ex_ [_] (an_ (an_ (ex_ _ (ex_ _ (an_ rfl (an_ rfl (Or.inl (an_ (Ql.ag rfl) (an_ (Ql.sz rfl) rfl))))))) tt_) (QaQ tt_)))
def QeM (b:Int)(a:(List Qj)):Option ((Int×(List Qj))⊕(List Qj)):=
 some (.inl ((w64 (b+1)),a))
def QgN (f:(List Qj))(e:Int)(c:Int)(d:(List Qj)):Option ((Int×(List Qj))⊕(List Qj)):=
 bif (decide (c<(f.length:Int)))then
 (idx f c).bind fun a=>
 bif (a.Id != e)then
 (Qe8 a).bind fun b=>
 (chk (decide (d.length+([b]:List Qj).length≤4294967296))).bind fun _=>
 QeM c (d++([b]:List Qj))
 else
 QeM c d
 else
 some (.inr d)
def QgO (a:(List Qj)):Option (List Qj):=
 some a
def Qgh (b:(List Qj))(a:Int):Option (List Qj):=
 (QK (fun st=>QgN b a st.1 st.2) (0,([]:List Qj))).bind (fun q=>QgO q)
theorem QgP (k a){r}(h:Qgh k a=some r):Qh prog 12 [.sl 11 (k.map Qd),.I a] [] (Qq (.own 600 r.length) [(600,.arr 11 (r.map Qd))]):=by
 refine Qh.walk 25 func12 rfl rfl rfl fun C hC=>?_
 refine Qa hC [.n 14,.o (.ln k.length),.n 4,.adopt 5 18 11,.O 18 (.arr 11 (([]:List Qj).map Qd)),.S 5 (.own 18 ([]:List Qj).length),.K [1,5,8,9,10] [18]] rfl ⟨⟨⟨tt_,Qk⟩,rfl⟩,(congrArg (fun n=>V.own 18 n) (by simp))⟩ ?_
 obtain⟨w,l,h⟩:=Qe h
 refine AK.loop (body:=(fun st=>QgN k a st.1 st.2)) (fun st σ=>σ=⟨[(1,.I a),(5,.own 18 st.2.length),(8,.sl 11 (k.map Qd)),(9,.I (k.length:Int)),(10,.I st.1)],[(18,.arr 11 (st.2.map Qd))]⟩) (fun q e σ=>e=.exit 0∧σ=⟨[(5,.own 18 q.length)],[(18,.arr 11 (q.map Qd))]⟩) l rfl ?_ ?_
 ·rintro ⟨t,u⟩ o σ rfl h
  refine tg_ hC [.n 6] rfl ?_
  refine bg_ h (fun b h=>Qa hC [.T,.n 2] rfl ⟨tt_,b⟩ ?_) fun b h=>Qa hC [.F,.n 2,.K [5] [18]] rfl ⟨tt_,b⟩ ?_
  ·refine AK.meet (fun σ=>∃g:(List Qj),σ=⟨[(1,.I a),(5,.own 18 g.length),(8,.sl 11 (k.map Qd)),(9,.I (k.length:Int)),(10,.I t)],[(18,.arr 11 (g.map Qd))]⟩∧QeM t g=some o) ?_ ?_
   ·obtain⟨i,m,h⟩:=Qe h
    refine Qa hC [.n 3,.o (.row (Qd i)),.v .no [] (.agg (Qd i)),.n 2,.O 7 (.var (Qd i)),.n 10] rfl ⟨⟨⟨tt_,(Qbs m)⟩,rfl⟩,rfl⟩ ?_
    rcases QP h with⟨f,h⟩|⟨f,h⟩
    ·obtain⟨j,p,h⟩:=Qe h
     obtain⟨s,h⟩:=QcD h
     refine Qa hC [.T,.n 2,.v .no [] (.agg (Qd i)),.o (.c false [.d] (.agg (Qd j))),.v (.bd []) [] (.sl 11 (([j]:List Qj).map Qd)),.app ((u++([j]:List Qj)).map Qd) (u++([j]:List Qj)).length,.n 3,.K [1,5,8,9,10] [18]] rfl ⟨⟨⟨⟨⟨tt_,f⟩,rfl⟩,(QfJ _ p)⟩,rfl⟩,⟨Qk,Qd7 s Qk,QcQ,Qfn Qk⟩⟩ ?_
     exact AK.met (ex_ _ (an_ rfl h))
    refine Qa hC [.F,.n 2,.K [1,5,8,9,10] [18]] rfl ⟨tt_,f⟩ ?_
    exact AK.met (ex_ _ (an_ rfl h))
   rintro σ ⟨g,rfl,h⟩
   refine tg_ hC [.n 4,.K [1,5,8,9,10] [18]] rfl ?_
   cases h
   exact Qbl rfl rfl
  cases h
  exact Qbd rfl (an_ rfl rfl)
 replace h:QgO w=some r:=h
 rintro e σ ⟨rfl,rfl⟩
 refine tg_ hC [.n 9,.K [4] [18],.ren 18 600] rfl ?_
 cases h
 exact d1_ rfl rfl ⟨rfl,tt_⟩
def Qin (a:Qj)(b:Qj):Option Bool:=
 some (decide (b.Id<a.Id))
theorem Qjt (c a){r}(h:Qin c a=some r):Qh prog 38 [.agg (Qd c),.loc 607 0 0] [(607,.var (Qd a))] (Qq (.b r) [(607,.var (Qd a))]):=by
 refine Qh.walk 9 func38 rfl rfl rfl fun C hC=>?_
 refine tg_ hC [.n 17] rfl ?_
 cases h
 exact d1_ rfl rfl ⟨rfl,tt_⟩
def Qbo (c:(List Qj))(d:Qj)(a:Int):Option (Int⊕(Int⊕Unit)):=
 bif (decide (a<(c.length:Int)))then
 (idx c a).bind fun e=>
 (Qin e d).bind fun b=>
 bif b then
 some (.inr (.inl a))
 else
 some (.inl (w64 (a+1)))
 else
 some (.inr (.inr ()))
def Qbp (a:Int):Option Int:=
 some a
def Qbq : Option Int:=
 some (-1)
def QbL (a:(List Qj))(b:Qj):Option Int:=
 (QK (fun st=>Qbo a b st) 0).bind (Sum.elim (fun q=>Qbp q) (fun q=>Qbq))
theorem Qdo (c f){r}(h:QbL c f=some r):Qh prog 37 [.own 607 c.length,.clo (.func 38) [] [.loc 608 0 0]] [(607,.arr 11 (c.map Qd)),(608,.var (Qd f))] (Qq (.I r) [(607,.arr 11 (c.map Qd)),(608,.var (Qd f))]):=by
 refine Qh.walk 19 func37 rfl rfl rfl fun C hC=>?_
 refine tg_ hC [.n 14,.K [0,1,7,8] [607,608]] rfl ?_
 obtain⟨l,i,h⟩:=Qe h
 refine AK.loop (body:=(fun st=>Qbo c f st)) (fun st σ=>σ=⟨[(0,.own 607 c.length),(1,.clo (.func 38) [] [.loc 608 0 0]),(7,.I (c.length:Int)),(8,.I st)],[(607,.arr 11 (c.map Qd)),(608,.var (Qd f))]⟩) (Sum.elim (fun q e σ=>e=.ret∧σ=⟨[(4,.I q)],[(607,.arr 11 (c.map Qd)),(608,.var (Qd f))]⟩) (fun q e σ=>e=.exit 0∧σ=⟨[],[(607,.arr 11 (c.map Qd)),(608,.var (Qd f))]⟩)) i rfl ?_ ?_
 ·rintro t o σ rfl h
  refine tg_ hC [.n 6] rfl ?_
  rcases QP h with⟨g,h⟩|⟨g,h⟩
  ·obtain⟨p,j,h⟩:=Qe h
   obtain⟨m,k,h⟩:=Qe h
   refine Qa hC [.T,.n 16,.v (.row (Qd p)) [] (.agg (Qd p)),.cm (.clo) [(607,608)] [(608,607)] [] [.d,.d] [(607,.var (Qd f))] (.b m),.n 2] rfl ⟨⟨⟨⟨⟨tt_,g⟩,(Qbx j rfl)⟩,(QT (QbJ j).2)⟩,rfl⟩,(Qjt _ _ k)⟩ ?_
   refine bg_ h (fun a h=>Qa hC [.T,.n 9,.K [4] [607,608]] rfl ⟨tt_,a⟩ ?_) fun a h=>Qa hC [.F,.n 7,.K [0,1,7,8] [607,608]] rfl ⟨tt_,a⟩ ?_
   ·cases h
    exact QhY rfl (an_ rfl rfl)
   cases h
   exact Qbl rfl rfl
  refine Qa hC [.F,.n 2,.K [] [607,608]] rfl ⟨tt_,g⟩ ?_
  cases h
  exact Qbd rfl (an_ rfl rfl)
 rcases l with(s | _)
 ·replace h:Qbp s=some r:=h
  rintro e σ ⟨rfl,rfl⟩
  refine tg_ hC [.n 2] rfl ?_
  cases h
  exact d1_ rfl rfl ⟨rfl,rfl,tt_⟩
 replace h:Qbq=some r:=h
 rintro e σ ⟨rfl,rfl⟩
 refine tg_ hC [.n 8] rfl ?_
 cases h
 exact d1_ rfl rfl ⟨rfl,rfl,tt_⟩
def Qa0 (l:(List Qj))(i:Int)(m:(List Qj)):Option (List Qj):=match m with
 | [u]=>(chk (decide (0≤i)&&decide (i.toNat≤l.length)&&decide (l.length+1≤4294967296))).bind fun _=>some (l.take i.toNat++u::l.drop i.toNat)
 | _=>none
theorem QdJ (l i m){r}(h:Qa0 l i m=some r):Qh prog 39 [.own 605 l.length,.I i,.own 606 m.length] [(605,.arr 11 (l.map Qd)),(606,.arr 11 (m.map Qd))] (Qq (.own 605 r.length) [(605,.arr 11 (r.map Qd))]):=by
 unfold Qa0 at h
 split at h
 ·rename_i u
  obtain⟨_,a,h⟩:=Qe h
  replace a:=QoC a
  simp only [Qv,Qei]at a
  cases h
  have:=Qlp Qmx (l.map Qd) (Qd u) i a.1.1 (by rw [QfO];exact a.1.2) (by rw [QfO];exact a.2)
  rw [←List.map_take,←List.map_drop,←Qcx,←List.map_append,QfO,QfO]at this
  exact this
 cases h
def Qe9 (a:Qj)(b:(List Qj))(at_6:Int):Option (List Qj):=
 (Qe8 a).bind fun c=>
 (Qa0 b at_6 ([c]:List Qj)).bind fun d=>
 some d
def Qfp (d:(List Qj))(a:Qj):Option (List Qj):=
 (Qgh d a.Id).bind fun b=>
 (QbL b a).bind fun c=>
 bif (decide (c<0))then
 Qe9 a b (b.length:Int)
 else
 Qe9 a b c
theorem Qfa (l b){r}(h:Qfp l b=some r):Qh prog 11 [.sl 11 (l.map Qd),.agg (Qd b)] [] (Qq (.own 600 r.length) [(600,.arr 11 (r.map Qd))]):=by
 refine Qh.walk 24 func11 rfl rfl rfl fun C hC=>?_
 obtain⟨e,f,h⟩:=Qe h
 obtain⟨p,g,h⟩:=Qe h
 refine Qa hC [.n 11,.o (.co false [.d,.d] 11 (e.map Qd) e.length),.n 7,.cm (.fn) [(607,10),(608,3)] [(10,607),(3,608)] [] [.d,.d] [(607,.arr 11 (e.map Qd)),(608,.var (Qd b))] (.I p),.n 3] rfl ⟨⟨tt_,⟨(QgP _ _ f),Qk,.inl rfl⟩⟩,(Qdo _ _ g)⟩ ?_
 refine AK.meet (fun σ=>∃at_6:Int,σ=⟨[(3,.loc 3 0 0),(5,.own 10 e.length),(6,.I at_6)],[(3,.var (Qd b)),(10,.arr 11 (e.map Qd))]⟩∧Qe9 b e at_6=some r) ?_ ?_
 ·refine tg_ hC [.n 6] rfl ?_
  refine bg_ h (fun a h=>Qa hC [.T,.n 5,.K [3,5,6] [3,10]] rfl ⟨tt_,a⟩ ?_) fun a h=>Qa hC [.F,.n 1,.K [3,5,6] [3,10]] rfl ⟨tt_,a⟩ ?_
  ·exact AK.met (ex_ _ (an_ rfl h))
  exact AK.met (ex_ _ (an_ rfl h))
 rintro σ ⟨at_6,rfl,h⟩
 obtain⟨i,j,h⟩:=Qe h
 obtain⟨m,k,h⟩:=Qe h
 refine Qa hC [.n 4,.v .no [] (.agg (Qd b)),.o (.c false [.d] (.agg (Qd i))),.n 1,.O 22 (.arr 11 (([i]:List Qj).map Qd)),.S 22 (.own 22 ([i]:List Qj).length),.cm (.fn) [(605,10),(606,22)] [(10,605)] [10,22] [.d,.d,.d] [(605,.arr 11 (m.map Qd))] (.own 605 m.length),.n 4,.K [4] [10],.ren 10 600] rfl ⟨⟨⟨⟨⟨tt_,rfl⟩,(QfJ _ j)⟩,rfl⟩,rfl⟩,(QdJ _ _ _ k)⟩ ?_
 cases h
 exact d1_ rfl rfl ⟨rfl,tt_⟩
def Qho (c:Int)(a:Int)(b:(List Int)):Option ((Int×(List Int))⊕(List Int)):=
 bif (decide (0≤a))then
 (chk (decide (0≤(w64 (8*a))))).bind fun _=>
 (chk (decide (b.length+([(IntKind.u8.wrap (Qda .u64 (IntKind.u64.wrap c) (w64 (8*a))))]:List Int).length≤4294967296))).bind fun _=>
 some (.inl ((w64 (a-1)),(b++([(IntKind.u8.wrap (Qda .u64 (IntKind.u64.wrap c) (w64 (8*a))))]:List Int))))
 else
 some (.inr b)
def Qhp (b:Int)(a:(List Int)):Option ((Int×(List Int))⊕(List Int)):=
 some (.inl ((w64 (b+1)),a))
def Qhq (c:(List Int))(a:Int)(d:(List Int)):Option ((Int×(List Int))⊕(List Int)):=
 bif (decide (a<(c.length:Int)))then
 (idx c a).bind fun b=>
 (QK (fun st=>Qho b st.1 st.2) (7,d)).bind (fun q=>Qhp a q)
 else
 some (.inr d)
def Qhr (a:(List Int)):Option (List Int):=
 some a
def Qfq (a:(List Int)):Option (List Int):=
 (QK (fun st=>Qhq a st.1 st.2) (0,([]:List Int))).bind (fun q=>Qhr q)
theorem Qhs (d){r}(h:Qfq d=some r):Qh prog 56 [.lit (.slice none 0 0),.sl 1 (d.map Qp)] [] (Qq (.own 600 r.length) [(600,.arr 1 (r.map Qn))]):=by
 refine Qh.walk 29 func56 rfl rfl rfl fun C hC=>?_
 refine Qa hC [.n 9,.o (.ln d.length),.n 4,.adopt 0 18 1,.O 18 (.arr 1 (([]:List Int).map Qn)),.S 0 (.own 18 ([]:List Int).length),.K [0,8,9,10] [18]] rfl ⟨⟨⟨tt_,Qk⟩,rfl⟩,(congrArg (fun n=>V.own 18 n) (by simp))⟩ ?_
 obtain⟨x,j,h⟩:=Qe h
 refine AK.loop (body:=(fun st=>Qhq d st.1 st.2)) (fun st σ=>σ=⟨[(0,.own 18 st.2.length),(8,.sl 1 (d.map Qp)),(9,.I (d.length:Int)),(10,.I st.1)],[(18,.arr 1 (st.2.map Qn))]⟩) (fun q e σ=>e=.exit 0∧σ=⟨[(0,.own 18 q.length)],[(18,.arr 1 (q.map Qn))]⟩) j rfl ?_ ?_
 ·rintro ⟨t,y⟩ o σ rfl h
  refine tg_ hC [.n 6] rfl ?_
  rcases QP h with⟨f,h⟩|⟨f,h⟩
  ·obtain⟨a,k,h⟩:=Qe h
   refine Qa hC [.T,.n 6,.o (.row (Qp a)),.n 10,.K [0,6,7,8,9,10] [18]] rfl ⟨⟨tt_,f⟩,(Qbs k)⟩ ?_
   obtain⟨u,l,h⟩:=Qe h
   refine AK.loop (body:=(fun st=>Qho a st.1 st.2)) (fun st σ=>σ=⟨[(0,.own 18 st.2.length),(6,.I a),(7,.I st.1),(8,.sl 1 (d.map Qp)),(9,.I (d.length:Int)),(10,.I t)],[(18,.arr 1 (st.2.map Qn))]⟩) (fun q e σ=>e=.exit 2∧σ=⟨[(0,.own 18 q.length),(8,.sl 1 (d.map Qp)),(9,.I (d.length:Int)),(10,.I t)],[(18,.arr 1 (q.map Qn))]⟩) l rfl ?_ ?_
   ·rintro ⟨b,m⟩ o σ rfl h
    refine tg_ hC [.n 7] rfl ?_
    rcases QP h with⟨c,h⟩|⟨c,h⟩
    ·obtain⟨p,h⟩:=QcD h
     obtain⟨s,h⟩:=QcD h
     refine Qa hC [.T,.n 7,.o (.any (.i .u64 (IntKind.u64.wrap a)) none),.n 2,.o (.any (.i .u64 (Qda .u64 (IntKind.u64.wrap a) (w64 (8*b)))) none),.o (.any (.i .u8 (IntKind.u8.wrap (Qda .u64 (IntKind.u64.wrap a) (w64 (8*b))))) none),.v (.bd []) [] (.sl 1 (([(IntKind.u8.wrap (Qda .u64 (IntKind.u64.wrap a) (w64 (8*b))))]:List Int).map Qn)),.app ((m++([(IntKind.u8.wrap (Qda .u64 (IntKind.u64.wrap a) (w64 (8*b))))]:List Int)).map Qn) (m++([(IntKind.u8.wrap (Qda .u64 (IntKind.u64.wrap a) (w64 (8*b))))]:List Int)).length,.n 9,.K [0,6,7,8,9,10] [18]] rfl ⟨⟨⟨⟨⟨⟨tt_,c⟩,(fun σ g w _=>Stp.convI rfl rfl (Qw hC.n rfl) (g _ _ rfl) QnJ Qhn)⟩,(fun σ g w _=>Stp.shr rfl rfl (Qw hC.n rfl) (g _ _ rfl) (g _ _ rfl) (QbO p))⟩,(fun σ g w _=>Stp.convI rfl rfl (Qw hC.n rfl) (g _ _ rfl) Qhn Qjs)⟩,rfl⟩,⟨Qk,Qd7 s Qk,QcQ,Qfn Qk⟩⟩ ?_
     cases h
     exact Qbl rfl rfl
    refine Qa hC [.F,.n 2,.K [0,8,9,10] [18]] rfl ⟨tt_,c⟩ ?_
    cases h
    exact Qbd rfl (an_ rfl rfl)
   replace h:Qhp t u=some o:=h
   rintro e σ ⟨rfl,rfl⟩
   refine tg_ hC [.n 7,.K [0,8,9,10] [18]] rfl ?_
   cases h
   exact Qbl rfl rfl
  refine Qa hC [.F,.n 2,.K [0] [18]] rfl ⟨tt_,f⟩ ?_
  cases h
  exact Qbd rfl (an_ rfl rfl)
 replace h:Qhr x=some r:=h
 rintro e σ ⟨rfl,rfl⟩
 refine tg_ hC [.n 9,.K [4] [18],.ren 18 600] rfl ?_
 cases h
 exact d1_ rfl rfl ⟨rfl,tt_⟩
def Qau (c:Int)(a:Int)(b:(List Int)):Option ((Int×(List Int))⊕(List Int)):=
 bif (decide (0≤a))then
 (chk (decide (0≤(w64 (8*a))))).bind fun _=>
 (chk (decide (b.length+([(IntKind.u8.wrap (Qda .u64 (IntKind.u64.wrap c) (w64 (8*a))))]:List Int).length≤4294967296))).bind fun _=>
 some (.inl ((w64 (a-1)),(b++([(IntKind.u8.wrap (Qda .u64 (IntKind.u64.wrap c) (w64 (8*a))))]:List Int))))
 else
 some (.inr b)
def QfK (b:Int)(a:(List Int)):Option ((Int×(List Int))⊕(List Int)):=
 some (.inl ((w64 (b+1)),a))
def Qbn (c:(List Int))(a:Int)(d:(List Int)):Option ((Int×(List Int))⊕(List Int)):=
 bif (decide (a<(c.length:Int)))then
 (idx c a).bind fun b=>
 (QK (fun st=>Qau b st.1 st.2) (7,d)).bind (fun q=>QfK a q)
 else
 some (.inr d)
def QfL (a:(List Int)):Option (List Int):=
 some a
def Q9 (a:(List Int))(b:(List Int)):Option (List Int):=
 (QK (fun st=>Qbn b st.1 st.2) (0,a)).bind (fun q=>QfL q)
theorem Qag (t f){r}(h:Q9 t f=some r):Qh prog 56 [.own 605 t.length,.sl 1 (f.map Qp)] [(605,.arr 1 (t.map Qn))] (Qq (.own 605 r.length) [(605,.arr 1 (r.map Qn))]):=by
 refine Qh.walk 29 func56 rfl rfl rfl fun C hC=>?_
 refine Qa hC [.n 9,.o (.ln f.length),.n 4,.K [0,8,9,10] [605]] rfl ⟨tt_,Qk⟩ ?_
 obtain⟨y,j,h⟩:=Qe h
 refine AK.loop (body:=(fun st=>Qbn f st.1 st.2)) (fun st σ=>σ=⟨[(0,.own 605 st.2.length),(8,.sl 1 (f.map Qp)),(9,.I (f.length:Int)),(10,.I st.1)],[(605,.arr 1 (st.2.map Qn))]⟩) (fun q e σ=>e=.exit 0∧σ=⟨[(0,.own 605 q.length)],[(605,.arr 1 (q.map Qn))]⟩) j rfl ?_ ?_
 ·rintro ⟨u,z⟩ o σ rfl h
  refine tg_ hC [.n 6] rfl ?_
  rcases QP h with⟨b,h⟩|⟨b,h⟩
  ·obtain⟨a,k,h⟩:=Qe h
   refine Qa hC [.T,.n 6,.o (.row (Qp a)),.n 10,.K [0,6,7,8,9,10] [605]] rfl ⟨⟨tt_,b⟩,(Qbs k)⟩ ?_
   obtain⟨w,l,h⟩:=Qe h
   refine AK.loop (body:=(fun st=>Qau a st.1 st.2)) (fun st σ=>σ=⟨[(0,.own 605 st.2.length),(6,.I a),(7,.I st.1),(8,.sl 1 (f.map Qp)),(9,.I (f.length:Int)),(10,.I u)],[(605,.arr 1 (st.2.map Qn))]⟩) (fun q e σ=>e=.exit 2∧σ=⟨[(0,.own 605 q.length),(8,.sl 1 (f.map Qp)),(9,.I (f.length:Int)),(10,.I u)],[(605,.arr 1 (q.map Qn))]⟩) l rfl ?_ ?_
   ·rintro ⟨c,m⟩ o σ rfl h
    refine tg_ hC [.n 7] rfl ?_
    rcases QP h with⟨d,h⟩|⟨d,h⟩
    ·obtain⟨p,h⟩:=QcD h
     obtain⟨s,h⟩:=QcD h
     refine Qa hC [.T,.n 7,.o (.any (.i .u64 (IntKind.u64.wrap a)) none),.n 2,.o (.any (.i .u64 (Qda .u64 (IntKind.u64.wrap a) (w64 (8*c)))) none),.o (.any (.i .u8 (IntKind.u8.wrap (Qda .u64 (IntKind.u64.wrap a) (w64 (8*c))))) none),.v (.bd []) [] (.sl 1 (([(IntKind.u8.wrap (Qda .u64 (IntKind.u64.wrap a) (w64 (8*c))))]:List Int).map Qn)),.app ((m++([(IntKind.u8.wrap (Qda .u64 (IntKind.u64.wrap a) (w64 (8*c))))]:List Int)).map Qn) (m++([(IntKind.u8.wrap (Qda .u64 (IntKind.u64.wrap a) (w64 (8*c))))]:List Int)).length,.n 9,.K [0,6,7,8,9,10] [605]] rfl ⟨⟨⟨⟨⟨⟨tt_,d⟩,(fun σ g x _=>Stp.convI rfl rfl (Qw hC.n rfl) (g _ _ rfl) QnJ Qhn)⟩,(fun σ g x _=>Stp.shr rfl rfl (Qw hC.n rfl) (g _ _ rfl) (g _ _ rfl) (QbO p))⟩,(fun σ g x _=>Stp.convI rfl rfl (Qw hC.n rfl) (g _ _ rfl) Qhn Qjs)⟩,rfl⟩,⟨Qk,Qd7 s Qk,QcQ,Qfn Qk⟩⟩ ?_
     cases h
     exact Qbl rfl rfl
    refine Qa hC [.F,.n 2,.K [0,8,9,10] [605]] rfl ⟨tt_,d⟩ ?_
    cases h
    exact Qbd rfl (an_ rfl rfl)
   replace h:QfK u w=some o:=h
   rintro e σ ⟨rfl,rfl⟩
   refine tg_ hC [.n 7,.K [0,8,9,10] [605]] rfl ?_
   cases h
   exact Qbl rfl rfl
  refine Qa hC [.F,.n 2,.K [0] [605]] rfl ⟨tt_,b⟩ ?_
  cases h
  exact Qbd rfl (an_ rfl rfl)
 replace h:QfL y=some r:=h
 rintro e σ ⟨rfl,rfl⟩
 refine tg_ hC [.n 9] rfl ?_
 cases h
 exact d1_ rfl rfl ⟨rfl,tt_⟩
def Qfr (a:(List Int))(b:Int):Option (List Int):=
 (Q9 a ([b]:List Int)).bind fun c=>
 some c
theorem Qkh (a b){r}(h:Qfr a b=some r):Qh prog 95 [.own 605 a.length,.I b] [(605,.arr 1 (a.map Qn))] (Qq (.own 605 r.length) [(605,.arr 1 (r.map Qn))]):=by
 refine Qh.walk 9 func95 rfl rfl rfl fun C hC=>?_
 obtain⟨e,c,h⟩:=Qe h
 refine Qa hC [.n 9,.v (.bd []) [] (.sl 1 (([b]:List Int).map Qp)),.cm (.fn) [(605,605)] [(605,605)] [605] [.d,.d] [(605,.arr 1 (e.map Qn))] (.own 605 e.length),.n 4] rfl ⟨⟨tt_,rfl⟩,(Qag _ _ c)⟩ ?_
 cases h
 exact d1_ rfl rfl ⟨rfl,tt_⟩
def Qa5 (d:(List Int))(a:Int)(e:(List Int)):Option ((Int×(List Int))⊕(List Int)):=
 bif (decide (a<(d.length:Int)))then
 (idx d a).bind fun b=>
 (Qfr e b).bind fun c=>
 some (.inl ((w64 (a+1)),c))
 else
 some (.inr e)
def QfB (a:(List Int)):Option (List Int):=
 some a
def QcA (b:(List Int))(a:(List Int)):Option (List Int):=
 (Q9 b ([(a.length:Int)]:List Int)).bind fun c=>
 (QK (fun st=>Qa5 a st.1 st.2) (0,c)).bind (fun q=>QfB q)
theorem QdK (j b){r}(h:QcA j b=some r):Qh prog 94 [.own 605 j.length,.sl 1 (b.map Qp),.clo (.func 95) [] []] [(605,.arr 1 (j.map Qn))] (Qq (.own 605 r.length) [(605,.arr 1 (r.map Qn))]):=by
 refine Qh.walk 26 func94 rfl rfl rfl fun C hC=>?_
 obtain⟨p,k,h⟩:=Qe h
 refine Qa hC [.n 9,.o (.ln b.length),.v (.bd []) [] (.sl 1 (([(b.length:Int)]:List Int).map Qp)),.cm (.fn) [(605,605)] [(605,605)] [605] [.d,.d] [(605,.arr 1 (p.map Qn))] (.own 605 p.length),.n 7,.o (.ln b.length),.n 4,.K [0,2,14,15,16] [605]] rfl ⟨⟨⟨⟨tt_,Qk⟩,rfl⟩,(Qag _ _ k)⟩,Qk⟩ ?_
 obtain⟨l,c,h⟩:=Qe h
 refine AK.loop (body:=(fun st=>Qa5 b st.1 st.2)) (fun st σ=>σ=⟨[(0,.own 605 st.2.length),(2,.clo (.func 95) [] []),(14,.sl 1 (b.map Qp)),(15,.I (b.length:Int)),(16,.I st.1)],[(605,.arr 1 (st.2.map Qn))]⟩) (fun q e σ=>e=.exit 0∧σ=⟨[(0,.own 605 q.length)],[(605,.arr 1 (q.map Qn))]⟩) c rfl ?_ ?_
 ·rintro ⟨s,t⟩ o σ rfl h
  refine tg_ hC [.n 6] rfl ?_
  rcases QP h with⟨a,h⟩|⟨a,h⟩
  ·obtain⟨m,f,h⟩:=Qe h
   obtain⟨g,i,h⟩:=Qe h
   refine Qa hC [.T,.n 6,.o (.row (Qp m)),.n 8,.cm (.clo) [(605,605)] [(605,605)] [605] [.d,.d] [(605,.arr 1 (g.map Qn))] (.own 605 g.length),.n 8,.K [0,2,14,15,16] [605]] rfl ⟨⟨⟨tt_,a⟩,(Qbs f)⟩,(Qkh _ _ i)⟩ ?_
   cases h
   exact Qbl rfl rfl
  refine Qa hC [.F,.n 2,.K [0] [605]] rfl ⟨tt_,a⟩ ?_
  cases h
  exact Qbd rfl (an_ rfl rfl)
 replace h:QfB l=some r:=h
 rintro e σ ⟨rfl,rfl⟩
 refine tg_ hC [.n 9] rfl ?_
 cases h
 exact d1_ rfl rfl ⟨rfl,tt_⟩
def QdL (b:(List Int))(a:QX):Option (List Int):=
 (Q9 b ([a.Task]:List Int)).bind fun c=>
 (QcA c a.Vars).bind fun d=>
 (QcA d a.Ins).bind fun e=>
 (QcA e a.Outs).bind fun f=>
 some f
theorem QgQ (b c){r}(h:QdL b c=some r):Qh prog 61 [.own 605 b.length,.agg (Qae c)] [(605,.arr 1 (b.map Qn))] (Qq (.own 605 r.length) [(605,.arr 1 (r.map Qn))]):=by
 refine Qh.walk 19 func61 rfl rfl rfl fun C hC=>?_
 obtain⟨j,e,h⟩:=Qe h
 obtain⟨k,f,h⟩:=Qe h
 obtain⟨l,g,h⟩:=Qe h
 obtain⟨o,i,h⟩:=Qe h
 refine tg_ hC [.n 7,.K [0,3,4] [3,605]] rfl ?_
 refine AK.draw2 Ql hC mixed [.N,.N,.N,.a (.bd []) (some ([],.sl 1 (([c.Task]:List Int).map Qp))) false,.m (.cm (.fn) [(605,605)] [(605,605)] [605] [.d,.d] [(605,.arr 1 (j.map Qn))] (.own 605 j.length) []),.a .no none true,.a .no none true,.m (.cm (.fn) [(605,605)] [(605,605)] [605] [.d,.d,.d] [(605,.arr 1 (k.map Qn))] (.own 605 k.length) []),.a .no none true,.a .no none true,.m (.cm (.fn) [(605,605)] [(605,605)] [605] [.d,.d,.d] [(605,.arr 1 (l.map Qn))] (.own 605 l.length) []),.a .no none true,.a .no none true,.m (.cm (.fn) [(605,605)] [(605,605)] [605] [.d,.d,.d] [(605,.arr 1 (o.map Qn))] (.own 605 o.length) []),.m .s] [3,4] [3] [4] [605] rfl rfl rfl ⟨⟨⟨⟨⟨tt_,rfl⟩,⟨tt_,(Qag _ _ e)⟩⟩,⟨tt_,(QdK _ _ f)⟩⟩,⟨tt_,(QdK _ _ g)⟩⟩,⟨tt_,(QdK _ _ i)⟩⟩ rfl (by kernel_rfl) rfl rfl rfl ?_
 refine tg_ hC [.n 2] rfl ?_
 cases h
 exact d1_ rfl rfl ⟨rfl,tt_⟩
def Qa6 (a:Q6):Option (List Int):=
 (Qfq ([a.Do,a.Id]:List Int)).bind fun b=>
 (QdL b a.Mode).bind fun c=>
 (Q9 c ([a.Num]:List Int)).bind fun d=>
 some d
theorem QcT (b){r}(h:Qa6 b=some r):Qh prog 26 [.agg (QA b)] [] (Qq (.own 600 r.length) [(600,.arr 1 (r.map Qn))]):=by
 refine Qh.walk 16 func26 rfl rfl rfl fun C hC=>?_
 obtain⟨g,c,h⟩:=Qe h
 obtain⟨i,e,h⟩:=Qe h
 obtain⟨j,f,h⟩:=Qe h
 refine tg_ hC [.n 7,.K [1,2] [1]] rfl ?_
 refine AK.draw2 Ql hC mixed [.N,.N,.N,.N,.a (.bd []) (some ([],.sl 1 (([b.Do,b.Id]:List Int).map Qp))) false,.m (.cm (.fn) [] [(8,600)] [8] [.d,.d] [(600,.arr 1 (g.map Qn))] (.own 600 g.length) []),.a .no none true,.a .no (some ([],.agg (Qae b.Mode))) true,.m (.cm (.fn) [(605,8)] [(8,605)] [8] [.d,.d] [(605,.arr 1 (i.map Qn))] (.own 605 i.length) []),.a .no none true,.a .no none true,.a (.bd []) (some ([],.sl 1 (([b.Num]:List Int).map Qp))) true,.m (.cm (.fn) [(605,8)] [(8,605)] [8] [.d,.d] [(605,.arr 1 (j.map Qn))] (.own 605 j.length) []),.m .s] [1,2] [1] [2] [8] rfl rfl rfl ⟨⟨⟨⟨⟨⟨tt_,rfl⟩,⟨tt_,(Qhs _ c)⟩⟩,rfl⟩,⟨tt_,(QgQ _ _ e)⟩⟩,rfl⟩,⟨tt_,(Qag _ _ f)⟩⟩ rfl (by kernel_rfl) rfl rfl rfl ?_
 refine tg_ hC [.n 2,.K [2] [8],.ren 8 600] rfl ?_
 cases h
 exact d1_ rfl rfl ⟨rfl,tt_⟩
def QcU (a:Qc):Option Qc:=
 bif a.bad then
 some (Qc.mk a.b true)
 else
 some (Qc.mk a.b (decide ((a.b.length:Int)<8)))
def QaO (e:Qc)(c:Int)(a:Int):Option ((Int×Int)⊕Int):=
 bif (decide (a<(((e.b.drop 0).take (8-0)).length:Int)))then
 (idx ((e.b.drop 0).take (8-0)) a).bind fun d=>
 some (.inl ((orI .u64 (Qjr .u64 c 8) (IntKind.u64.wrap d)),(w64 (a+1))))
 else
 some (.inr c)
def QcV (a:Qc)(c:Int):Option (Int×Qc):=
 (chk (decide (0≤8)&&decide (8≤a.b.length)&&decide (a.b.length≤a.b.length))).bind fun _=>
 some ((w64 c),(Qc.mk ((a.b.drop 8).take (a.b.length-8)) a.bad))
def Qav (a:Qc):Option (Int×Qc):=
 bif a.bad then
 some (0,a)
 else
 (chk (decide (0≤8)&&decide (0≤8)&&decide (8≤a.b.length))).bind fun _=>
 (QK (fun st=>QaO a st.1 st.2) (0,0)).bind (fun q=>QcV a q)
def Qo (a:Qc):Option (Int×Qc):=
 (QcU a).bind (fun b=>Qav b)
theorem Qr (m){r}(h:Qo m=some r):Qh prog 98 [.loc 607 0 0] [(607,.var (Qb m))] (Qq (.I r.1) [(607,.var (Qb r.2))]):=by
 refine Qh.walk 51 func98 rfl rfl rfl fun C hC=>?_
 refine tg_ hC [.n 7] rfl ?_
 obtain⟨a,w,h⟩:=Qe h
 replace h:Qav a=some r:=h
 refine AK.meetX (fun σ=>σ=⟨[(0,.loc 607 0 0)],[(607,.var (Qb a))]⟩) ?_ ?_
 ·replace h:=w
  refine tg_ hC [.n 7] rfl ?_
  refine bg_ h (fun j h=>Qa hC [.S 11 (.b true),.n 10,.O 607 (.var (Qb (Qc.mk m.b true))),.n 1,.K [0] [607]] rfl ⟨(tc_ j),rfl⟩ ?_) fun j h=>Qa hC [.S 11 (.b false),.n 4,.o (.ln m.b.length),.n 5,.O 607 (.var (Qb (Qc.mk m.b (decide ((m.b.length:Int)<8))))),.n 1,.K [0] [607]] rfl ⟨⟨(tc_ j),Qk⟩,rfl⟩ ?_
  ·cases h
   exact AK.met rfl
  cases h
  exact AK.met rfl
 rintro σ rfl
 replace h:Qav a=some r:=h
 refine tg_ hC [.n 9] rfl ?_
 rcases QP h with⟨k,h⟩|⟨k,h⟩
 ·refine Qa hC [.T,.n 7] rfl ⟨tt_,k⟩ ?_
  cases h
  exact d1_ rfl rfl ⟨rfl,tt_⟩
 obtain⟨d,h⟩:=QcD h
 refine Qa hC [.F,.n 14,.o (.any (.sl 1 (((a.b.drop 0).take (8-0)).map Qn)) none),.o (.ln ((a.b.drop 0).take (8-0)).length),.n 4,.K [0,3,29,30,31] [607]] rfl ⟨⟨⟨tt_,k⟩,(fun σ c p _=>Stp.sliceD rfl rfl (Qw hC.n rfl) (c _ _ rfl) (Ql.es rfl) Bnd.no (Bnd.val (c _ _ rfl) (QbO (Qlc d)) rfl) (QbO (Qld d)) (Qbi (QbO (QoF d)) (Nat.le_of_eq Qk.symm)) Qms)⟩,Qk⟩ ?_
 obtain⟨s,t,h⟩:=Qe h
 refine AK.loop (body:=(fun st=>QaO a st.1 st.2)) (fun st σ=>σ=⟨[(0,.loc 607 0 0),(3,.i .u64 st.1),(29,.sl 1 (((a.b.drop 0).take (8-0)).map Qn)),(30,.I (((a.b.drop 0).take (8-0)).length:Int)),(31,.I st.2)],[(607,.var (Qb a))]⟩) (fun q e σ=>e=.exit 0∧σ=⟨[(0,.loc 607 0 0),(3,.i .u64 q)],[(607,.var (Qb a))]⟩) t rfl ?_ ?_
 ·rintro ⟨u,x⟩ o σ rfl h
  refine tg_ hC [.n 6] rfl ?_
  rcases QP h with⟨f,h⟩|⟨f,h⟩
  ·obtain⟨l,v,h⟩:=Qe h
   refine Qa hC [.T,.n 6,.o (.row (Qn l)),.n 6,.o (.any (.i .u64 (Qjr .u64 u 8)) none),.n 1,.o (.any (.i .u64 (IntKind.u64.wrap l)) none),.o (.any (.i .u64 (orI .u64 (Qjr .u64 u 8) (IntKind.u64.wrap l))) none),.n 8,.K [0,3,29,30,31] [607]] rfl ⟨⟨⟨⟨⟨tt_,f⟩,(Qbs v)⟩,(fun σ c p _=>Stp.shl rfl rfl (Qw hC.n rfl) (c _ _ rfl) (c _ _ rfl) (by decide))⟩,(fun σ c p _=>Stp.convI rfl rfl (Qw hC.n rfl) (c _ _ rfl) Qjs Qhn)⟩,(fun σ c p _=>Stp.orB rfl rfl (Qw hC.n rfl) (c _ _ rfl) (c _ _ rfl))⟩ ?_
   cases h
   exact Qbl rfl rfl
  refine Qa hC [.F,.n 2,.K [0,3] [607]] rfl ⟨tt_,f⟩ ?_
  cases h
  exact Qbd rfl (an_ rfl rfl)
 replace h:QcV a s=some r:=h
 rintro e σ ⟨rfl,rfl⟩
 obtain⟨g,h⟩:=QcD h
 refine Qa hC [.n 9,.o (.any (.sl 1 (((a.b.drop 8).take (a.b.length-8)).map Qn)) none),.n 3,.O 607 (.var (Qb (Qc.mk ((a.b.drop 8).take (a.b.length-8)) a.bad))),.n 5,.o (.any (.I (w64 s)) none),.n 4] rfl ⟨⟨⟨tt_,(fun σ c p _=>Stp.sliceD rfl rfl (Qw hC.n rfl) (c _ _ rfl) (Ql.es rfl) (Bnd.val (c _ _ rfl) (QbO (Qlc g)) rfl) (Bnd.none_ Qk) (QbO (Qld g)) (Nat.le_of_eq Qk.symm) Qms)⟩,rfl⟩,(fun σ c p _=>Stp.convI rfl rfl (Qw hC.n rfl) (c _ _ rfl) Qhn QnJ)⟩ ?_
 cases h
 exact d1_ rfl rfl ⟨rfl,tt_⟩
def Qdt (c:Qc)(f:Int)(g:Int)(d:Int)(e:Int):Option (Qc×Q6):=
 (Qo c).bind fun b=>
 (Qo b.2).bind fun a=>
 some (a.2,(Q6.mk b.1 a.1 (QX.mk d ([]:List Int) ([]:List Int) ([]:List Int)) e))
theorem Qhe (m p j c e){r}(h:Qdt m p j c e=some r):Qh prog 67 [.loc 607 0 0,.own 608 2] [(607,.var (Qb m)),(608,.var [.loc 609 0 0,.loc 609 0 1]),(609,.var [.I p,.I j,.I c,.lit (.slice none 0 0),.lit (.slice none 0 0),.lit (.slice none 0 0),.I e])] (Qq (.tup []) [(607,.var (Qb r.1)),(608,.var [.loc 609 0 0,.loc 609 0 1]),(609,.var (QA r.2))]):=by
 refine Qh.walk 17 func67 rfl rfl rfl fun C hC=>?_
 refine tg_ hC [.n 8] rfl ?_
 refine AK.loopN 3 (AK.rnd ?_)
 obtain⟨f,k,h⟩:=Qe h
 refine Qa hC [.n 2,.v .no [] (.b true),.n 10,.o (.any (.loc 608 0 0) none),.n 7,.cm (.fn) [(607,607)] [(607,607)] [] [.d] [(607,.var (Qb f.2))] (.I f.1),.n 2,.O 609 (.var [.I f.1,.I j,.I c,.lit (.slice none 0 0),.lit (.slice none 0 0),.lit (.slice none 0 0),.I e]),.n 4,.v .no [] (.I 1),.n 2] rfl ⟨⟨⟨⟨⟨tt_,rfl⟩,(fun σ g l _=>Stp.idxV rfl rfl (Qw hC.n rfl) (g _ _ rfl) (g _ _ rfl) (Ql.es rfl) (l _ _ rfl) (by decide))⟩,(Qr _ k)⟩,rfl⟩,rfl⟩ ?_
 refine AK.met (AK.rnd ?_)
 obtain⟨a,i,h⟩:=Qe h
 refine Qa hC [.n 2,.v .no [] (.b true),.n 10,.o (.any (.loc 608 0 1) none),.n 7,.cm (.fn) [(607,607)] [(607,607)] [] [.d] [(607,.var (Qb a.2))] (.I a.1),.n 2,.O 609 (.var [.I f.1,.I a.1,.I c,.lit (.slice none 0 0),.lit (.slice none 0 0),.lit (.slice none 0 0),.I e]),.n 4,.v .no [] (.I 2),.n 2] rfl ⟨⟨⟨⟨⟨tt_,rfl⟩,(fun σ g l _=>Stp.idxV rfl rfl (Qw hC.n rfl) (g _ _ rfl) (g _ _ rfl) (Ql.es rfl) (l _ _ rfl) (by decide))⟩,(Qr _ i)⟩,rfl⟩,rfl⟩ ?_
 refine AK.met (AK.rnd ?_)
 refine Qa hC [.n 2,.v .no [] (.b false),.n 8,.denilO 609 [none,none,none,some 1,some 1,some 1,none],.O 609 (.var (QA (Q6.mk f.1 a.1 (QX.mk c ([]:List Int) ([]:List Int) ([]:List Int)) e))),.K [] [607,608,609]] rfl ⟨⟨tt_,rfl⟩,rfl⟩ ?_
 cases h
 refine AK.done ?_
 exact ex_ [] (an_ tt_ (QaQ ⟨rfl,rfl,rfl,tt_⟩))
def QcE (b:Qc)(c:Int):Option (Qc×QX):=
 (Qo b).bind fun a=>
 some (a.2,(QX.mk a.1 ([]:List Int) ([]:List Int) ([]:List Int)))
theorem QfW (e f){r}(h:QcE e f=some r):Qh prog 67 [.loc 607 0 0,.own 608 1] [(607,.var (Qb e)),(608,.var [.loc 609 0 0]),(609,.var [.I f,.lit (.slice none 0 0),.lit (.slice none 0 0),.lit (.slice none 0 0)])] (Qq (.tup []) [(607,.var (Qb r.1)),(608,.var [.loc 609 0 0]),(609,.var (Qae r.2))]):=by
 refine Qh.walk 17 func67 rfl rfl rfl fun C hC=>?_
 refine tg_ hC [.n 8] rfl ?_
 refine AK.loopN 2 (AK.rnd ?_)
 obtain⟨a,c,h⟩:=Qe h
 refine Qa hC [.n 2,.v .no [] (.b true),.n 10,.o (.any (.loc 608 0 0) none),.n 7,.cm (.fn) [(607,607)] [(607,607)] [] [.d] [(607,.var (Qb a.2))] (.I a.1),.n 2,.O 609 (.var [.I a.1,.lit (.slice none 0 0),.lit (.slice none 0 0),.lit (.slice none 0 0)]),.n 4,.v .no [] (.I 1),.n 2] rfl ⟨⟨⟨⟨⟨tt_,rfl⟩,(fun σ g i _=>Stp.idxV rfl rfl (Qw hC.n rfl) (g _ _ rfl) (g _ _ rfl) (Ql.es rfl) (i _ _ rfl) (by decide))⟩,(Qr _ c)⟩,rfl⟩,rfl⟩ ?_
 refine AK.met (AK.rnd ?_)
 refine Qa hC [.n 2,.v .no [] (.b false),.n 8,.denilO 609 [none,some 1,some 1,some 1],.O 609 (.var (Qae (QX.mk a.1 ([]:List Int) ([]:List Int) ([]:List Int)))),.K [] [607,608,609]] rfl ⟨⟨tt_,rfl⟩,rfl⟩ ?_
 cases h
 refine AK.done ?_
 exact ex_ [] (an_ tt_ (QaQ ⟨rfl,rfl,rfl,tt_⟩))
def Qe0 (a:(Int×Qc)):Option Qc:=
 bif a.2.bad then
 some (Qc.mk a.2.b true)
 else
 some (Qc.mk a.2.b (decide (a.1<0)))
def QaK (e:(Int×Qc))(d:Int)(a:Qc)(b:(List Int)):Option ((Int×Qc×(List Int))⊕((List Int)×Qc)):=
 bif ((decide (d<e.1))&&(!a.bad))then
 (Qo a).bind fun c=>
 (chk (decide (b.length+([c.1]:List Int).length≤4294967296))).bind fun _=>
 some (.inl ((w64 (d+1)),c.2,(b++([c.1]:List Int))))
 else
 some (.inr (b,a))
def Qe1 (a:(List Int))(b:Qc):Option ((List Int)×Qc):=
 some (a,b)
def Qdu (a:(Int×Qc))(b:Qc):Option ((List Int)×Qc):=
 (QK (fun st=>QaK a st.1 st.2.1 st.2.2) (0,b,([]:List Int))).bind (fun q=>Qe1 q.1 q.2)
def QbD (b:Qc):Option ((List Int)×Qc):=
 (Qo b).bind fun a=>
 (Qe0 a).bind (fun c=>Qdu a c)
theorem Qdv (A){r}(h:QbD A=some r):Qh prog 102 [.loc 607 0 0,.clo (.func 98) [] []] [(607,.var (Qb A))] (Qq (.own 600 r.1.length) [(600,.arr 1 (r.1.map Qp)),(607,.var (Qb r.2))]):=by
 refine Qh.walk 40 func102 rfl rfl rfl fun C hC=>?_
 obtain⟨c,t,h⟩:=Qe h
 refine Qa hC [.n 8,.cm (.fn) [(607,607)] [(607,607)] [] [.d] [(607,.var (Qb c.2))] (.I c.1),.n 4] rfl ⟨tt_,(Qr _ t)⟩ ?_
 obtain⟨u,w,h⟩:=Qe h
 replace h:Qdu c u=some r:=h
 refine AK.meetX (fun σ=>σ=⟨[(0,.loc 607 0 0),(1,.clo (.func 98) [] []),(5,.I c.1)],[(607,.var (Qb u))]⟩) ?_ ?_
 ·replace h:=w
  refine tg_ hC [.n 7] rfl ?_
  refine bg_ h (fun k h=>Qa hC [.S 15 (.b true),.n 6,.O 607 (.var (Qb (Qc.mk c.2.b true))),.n 1,.K [0,1,5] [607]] rfl ⟨(tc_ k),rfl⟩ ?_) fun k h=>Qa hC [.S 15 (.b false),.n 6,.O 607 (.var (Qb (Qc.mk c.2.b (decide (c.1<0))))),.n 1,.K [0,1,5] [607]] rfl ⟨(tc_ k),rfl⟩ ?_
  ·cases h
   exact AK.met rfl
  cases h
  exact AK.met rfl
 rintro σ rfl
 replace h:Qdu c u=some r:=h
 refine Qa hC [.n 13,.adopt 6 33 1,.O 33 (.arr 1 (([]:List Int).map Qp)),.S 6 (.own 33 ([]:List Int).length),.K [0,1,5,6,7] [33,607]] rfl ⟨⟨tt_,rfl⟩,(congrArg (fun n=>V.own 33 n) (by simp))⟩ ?_
 obtain⟨x,l,h⟩:=Qe h
 refine AK.loop (body:=(fun st=>QaK c st.1 st.2.1 st.2.2)) (fun st σ=>σ=⟨[(0,.loc 607 0 0),(1,.clo (.func 98) [] []),(5,.I c.1),(6,.own 33 st.2.2.length),(7,.I st.1)],[(33,.arr 1 (st.2.2.map Qp)),(607,.var (Qb st.2.1))]⟩) (fun q e σ=>e=.exit 0∧σ=⟨[(6,.own 33 q.1.length)],[(33,.arr 1 (q.1.map Qp)),(607,.var (Qb q.2))]⟩) l rfl ?_ ?_
 ·rintro ⟨m,i,j⟩ o σ rfl h
  refine tg_ hC [.n 2] rfl ?_
  refine AK.meetX (fun σ=>σ=⟨[(0,.loc 607 0 0),(1,.clo (.func 98) [] []),(5,.I c.1),(6,.own 33 j.length),(7,.I m),(30,.b ((decide (m<c.1))&&(!i.bad)))],[(33,.arr 1 (j.map Qp)),(607,.var (Qb i))]⟩) ?_ ?_
  ·refine tg_ hC [.n 5] rfl ?_
   rcases Qcd (decide (m<c.1))with a | a
   ·refine Qa hC [.S 24 (.b true),.n 7,.S 30 (.b ((decide (m<c.1))&&(!i.bad))),.K [0,1,5,6,7,30] [33,607]] rfl ⟨(tc_ a),(congrArg V.b (QhP a rfl))⟩ ?_
    exact AK.met rfl
   refine Qa hC [.S 24 (.b false),.n 7,.S 30 (.b ((decide (m<c.1))&&(!i.bad))),.K [0,1,5,6,7,30] [33,607]] rfl ⟨(tc_ a),(congrArg V.b (QhQ a rfl))⟩ ?_
   exact AK.met rfl
  rintro σ rfl
  refine tg_ hC [.n 1] rfl ?_
  rcases QP h with⟨f,h⟩|⟨f,h⟩
  ·obtain⟨g,p,h⟩:=Qe h
   obtain⟨s,h⟩:=QcD h
   refine Qa hC [.T,.n 8,.cm (.clo) [(607,607)] [(607,607)] [] [.d] [(607,.var (Qb g.2))] (.I g.1),.v (.bd []) [] (.sl 1 (([g.1]:List Int).map Qp)),.app ((j++([g.1]:List Int)).map Qp) (j++([g.1]:List Int)).length,.n 9,.K [0,1,5,6,7] [33,607]] rfl ⟨⟨⟨⟨tt_,f⟩,(Qr _ p)⟩,rfl⟩,⟨Qk,Qd7 s Qk,QcQ,Qfn Qk⟩⟩ ?_
   cases h
   exact Qbl rfl rfl
  refine Qa hC [.F,.n 2,.K [6] [33,607]] rfl ⟨tt_,f⟩ ?_
  cases h
  exact Qbd rfl (an_ rfl rfl)
 obtain⟨y,z⟩:=x
 replace h:Qe1 y z=some r:=h
 rintro e σ ⟨rfl,rfl⟩
 refine tg_ hC [.n 9,.K [4] [33,607],.ren 33 600] rfl ?_
 cases h
 exact d1_ rfl rfl ⟨rfl,rfl,tt_⟩
def QbE (e:Qc):Option (QX×Qc):=
 (QcE e 0).bind fun a=>
 (QbD a.1).bind fun b=>
 (QbD b.2).bind fun c=>
 (QbD c.2).bind fun d=>
 some ((QX.mk a.2.Task b.1 c.1 d.1),d.2)
theorem Qe2 (p){r}(h:QbE p=some r):Qh prog 76 [.loc 607 0 0] [(607,.var (Qb p))] (Qq (.agg (Qae r.1)) [(607,.var (Qb r.2))]):=by
 refine Qh.walk 25 func76 rfl rfl rfl fun C hC=>?_
 obtain⟨c,j,h⟩:=Qe h
 refine Qa hC [.n 14,.o (.any (.own 8 1) (some (.var [.loc 3 0 0]))),.cm (.fn) [(607,607),(608,8),(609,3)] [(607,607),(8,608),(3,609)] [] [.d,.d] [(607,.var (Qb c.1)),(608,.var [.loc 609 0 0]),(609,.var (Qae c.2))] (.tup []),.n 8,.o (.any (.own 13 3) (some (.var [.loc 3 0 1,.loc 3 0 2,.loc 3 0 3]))),.n 5] rfl ⟨⟨⟨tt_,(fun σ a f hf=>Stp.buildAny rfl rfl (Qw hC.n rfl) (Ql.es rfl) Qia rfl (by decide) (by decide) (Qcg a rfl) rfl rfl (hf rfl))⟩,(QfW _ _ j)⟩,(fun σ a f hf=>Stp.buildAny rfl rfl (Qw hC.n rfl) (Ql.es rfl) Qm7 rfl (by decide) (by decide) (Qcg a rfl) rfl rfl (hf rfl))⟩ ?_
 refine AK.loopN 4 (AK.rnd ?_)
 obtain⟨e,k,h⟩:=Qe h
 refine Qa hC [.n 2,.v .no [] (.b true),.n 10,.o (.any (.loc 13 0 0) none),.n 7,.cm (.fn) [(607,607)] [(21,600),(607,607)] [] [.d,.d] [(600,.arr 1 (e.1.map Qp)),(607,.var (Qb e.2))] (.own 600 e.1.length),.n 2,.O 3 (.var [.I c.2.Task,.own 21 e.1.length,.sl 1 (c.2.Ins.map Qp),.sl 1 (c.2.Outs.map Qp)]),.n 4,.v .no [] (.I 1),.n 2] rfl ⟨⟨⟨⟨⟨tt_,rfl⟩,(fun σ a f _=>Stp.idxV rfl rfl (Qw hC.n rfl) (a _ _ rfl) (a _ _ rfl) (Ql.es rfl) (f _ _ rfl) (by decide))⟩,(Qdv _ k)⟩,rfl⟩,rfl⟩ ?_
 refine AK.met (AK.rnd ?_)
 obtain⟨g,l,h⟩:=Qe h
 refine Qa hC [.n 2,.v .no [] (.b true),.n 10,.o (.any (.loc 13 0 1) none),.n 7,.cm (.fn) [(607,607)] [(602,600),(607,607)] [] [.d,.d] [(600,.arr 1 (g.1.map Qp)),(607,.var (Qb g.2))] (.own 600 g.1.length),.n 2,.O 3 (.var [.I c.2.Task,.own 21 e.1.length,.own 602 g.1.length,.sl 1 (c.2.Outs.map Qp)]),.n 4,.v .no [] (.I 2),.n 2] rfl ⟨⟨⟨⟨⟨tt_,rfl⟩,(fun σ a f _=>Stp.idxV rfl rfl (Qw hC.n rfl) (a _ _ rfl) (a _ _ rfl) (Ql.es rfl) (f _ _ rfl) (by decide))⟩,(Qdv _ l)⟩,rfl⟩,rfl⟩ ?_
 refine AK.met (AK.rnd ?_)
 obtain⟨i,m,h⟩:=Qe h
 refine Qa hC [.n 2,.v .no [] (.b true),.n 10,.o (.any (.loc 13 0 2) none),.n 7,.cm (.fn) [(607,607)] [(603,600),(607,607)] [] [.d,.d] [(600,.arr 1 (i.1.map Qp)),(607,.var (Qb i.2))] (.own 600 i.1.length),.n 2,.O 3 (.var [.I c.2.Task,.own 21 e.1.length,.own 602 g.1.length,.own 603 i.1.length]),.n 4,.v .no [] (.I 3),.n 2] rfl ⟨⟨⟨⟨⟨tt_,rfl⟩,(fun σ a f _=>Stp.idxV rfl rfl (Qw hC.n rfl) (a _ _ rfl) (a _ _ rfl) (Ql.es rfl) (f _ _ rfl) (by decide))⟩,(Qdv _ m)⟩,rfl⟩,rfl⟩ ?_
 refine AK.met (AK.rnd ?_)
 refine Qa hC [.n 2,.v .no [] (.b false),.n 13,.O 2 (.var [.I c.2.Task,.own 21 e.1.length,.own 602 g.1.length,.own 603 i.1.length]),.n 3,.frz 21 (e.1.map Qp) [] [2],.frz 602 (g.1.map Qp) [] [2],.frz 603 (i.1.map Qp) [] [2],.K [2] [2,607]] rfl ⟨⟨⟨⟨⟨tt_,rfl⟩,rfl⟩,⟨tt_,⟨(QbT Qk),⟨tt_,⟨tt_,tt_⟩⟩⟩⟩⟩,⟨tt_,⟨(QbT Qk),⟨tt_,tt_⟩⟩⟩⟩,⟨tt_,⟨(QbT Qk),tt_⟩⟩⟩ ?_
 cases h
 exact AK.done (ex_ [_] (an_ (an_ (ex_ _ (ex_ _ (an_ rfl (an_ rfl (Or.inl (an_ (Ql.ag rfl) (an_ (Ql.sz rfl) rfl))))))) tt_) (QaQ ⟨rfl,tt_⟩)))
def QcF (c:Qc)(a:Q6):Option (Qc×Q6):=
 (Qo c).bind fun b=>
 some (b.2,(Q6.mk a.Do a.Id a.Mode b.1))
theorem QfX (f a){r}(h:QcF f a=some r):Qh prog 67 [.loc 607 0 0,.own 608 1] [(607,.var (Qb f)),(608,.var [.loc 609 0 6]),(609,.var (QA a))] (Qq (.tup []) [(607,.var (Qb r.1)),(608,.var [.loc 609 0 6]),(609,.var (QA r.2))]):=by
 refine Qh.walk 17 func67 rfl rfl rfl fun C hC=>?_
 refine tg_ hC [.n 8] rfl ?_
 refine AK.loopN 2 (AK.rnd ?_)
 obtain⟨c,e,h⟩:=Qe h
 refine Qa hC [.n 2,.v .no [] (.b true),.n 10,.o (.any (.loc 608 0 0) none),.n 7,.cm (.fn) [(607,607)] [(607,607)] [] [.d] [(607,.var (Qb c.2))] (.I c.1),.n 2,.O 609 (.var (QA (Q6.mk a.Do a.Id a.Mode c.1))),.n 4,.v .no [] (.I 1),.n 2] rfl ⟨⟨⟨⟨⟨tt_,rfl⟩,(fun σ g i _=>Stp.idxV rfl rfl (Qw hC.n rfl) (g _ _ rfl) (g _ _ rfl) (Ql.es rfl) (i _ _ rfl) (by decide))⟩,(Qr _ e)⟩,rfl⟩,rfl⟩ ?_
 refine AK.met (AK.rnd ?_)
 refine Qa hC [.n 2,.v .no [] (.b false),.n 8,.K [] [607,608,609]] rfl ⟨tt_,rfl⟩ ?_
 cases h
 refine AK.done ?_
 exact ex_ [] (an_ tt_ (QaQ ⟨rfl,rfl,rfl,tt_⟩))
def Qak (a:Qc)(c:Q6):Option (Int×Q6):=
 bif (a.bad||(decide (0<(a.b.length:Int))))then
 some (4,(Q6.mk 0 0 (QX.mk 0 ([]:(List Int)) ([]:(List Int)) ([]:(List Int))) 0))
 else
 some (0,c)
theorem QfY (a e){r}(h:Qak a e=some r):Qh prog 77 [.loc 607 0 0,.agg (QA e)] [(607,.var (Qb a))] (Qq (.tup [.agg (QA r.2),.I r.1]) [(607,.var (Qb a))]):=by
 refine Qh.walk 21 func77 rfl rfl rfl fun C hC=>?_
 refine tg_ hC [.n 9] rfl ?_
 refine AK.meetX (fun σ=>σ=⟨[(3,.loc 3 0 0),(4,.loc 4 0 0),(18,.b (a.bad||(decide (0<(a.b.length:Int)))))],[(3,.var (QA e)),(4,.var [.I 0,.I 0,.I 0,.lit (.slice none 0 0),.lit (.slice none 0 0),.lit (.slice none 0 0),.I 0]),(607,.var (Qb a))]⟩) ?_ ?_
 ·refine tg_ hC [.n 6] rfl ?_
  rcases Qcd a.bad with c | c
  ·refine Qa hC [.S 11 (.b true),.n 8,.S 18 (.b (a.bad||(decide (0<(a.b.length:Int))))),.K [3,4,18] [3,4,607]] rfl ⟨(tc_ c),(congrArg V.b (orT c rfl))⟩ ?_
   exact AK.met rfl
  refine Qa hC [.S 11 (.b false),.n 4,.o (.ln a.b.length),.n 3,.S 18 (.b (a.bad||(decide (0<(a.b.length:Int))))),.K [3,4,18] [3,4,607]] rfl ⟨⟨(tc_ c),Qk⟩,(congrArg V.b (orF c rfl))⟩ ?_
  exact AK.met rfl
 rintro σ rfl
 refine tg_ hC [.n 1] rfl ?_
 refine bg_ h (fun d h=>Qa hC [.T,.n 7,.v .no [none,none,none,some 1,some 1,some 1,none] (.agg (QA (Q6.mk 0 0 (QX.mk 0 ([]:(List Int)) ([]:(List Int)) ([]:(List Int))) 0))),.n 1,.O 4 (.var (QA (Q6.mk 0 0 (QX.mk 0 ([]:(List Int)) ([]:(List Int)) ([]:(List Int))) 0))),.n 5,.K [4,5] [4,607]] rfl ⟨⟨⟨tt_,d⟩,rfl⟩,rfl⟩ ?_) fun d h=>Qa hC [.F,.n 4,.v .no [] (.agg (QA e)),.n 1,.O 4 (.var (QA e)),.n 4,.K [4,5] [4,607]] rfl ⟨⟨⟨tt_,d⟩,rfl⟩,rfl⟩ ?_
 ·cases h
  exact AK.done (ex_ [_,_] (an_ (an_ (ex_ _ (ex_ _ (an_ rfl (an_ rfl (Or.inl (an_ (Ql.ag rfl) (an_ (Ql.sz rfl) rfl))))))) (an_ rfl tt_)) (QaQ ⟨rfl,tt_⟩)))
 cases h
 exact AK.done (ex_ [_,_] (an_ (an_ (ex_ _ (ex_ _ (an_ rfl (an_ rfl (Or.inl (an_ (Ql.ag rfl) (an_ (Ql.sz rfl) rfl))))))) (an_ rfl tt_)) (QaQ ⟨rfl,tt_⟩)))
def QaB (e:(List Int)):Option (Int×Q6):=
 (Qdt (Qc.mk e false) 0 0 0 0).bind fun a=>
 (QbE a.1).bind fun b=>
 (QcF b.2 (Q6.mk a.2.Do a.2.Id b.1 a.2.Num)).bind fun c=>
 (Qak c.1 c.2).bind fun d=>
 some (d.1,d.2)
theorem QbP (c){r}(h:QaB c=some r):Qh prog 32 [.sl 1 (c.map Qn)] [] (Qq (.tup [.agg (QA r.2),.I r.1]) []):=by
 refine Qh.walk 26 func32 rfl rfl rfl fun C hC=>?_
 obtain⟨a,e,h⟩:=Qe h
 obtain⟨f,g,h⟩:=Qe h
 obtain⟨b,i,h⟩:=Qe h
 obtain⟨j,k,h⟩:=Qe h
 refine Qa hC [.n 9,.v .no [] (.agg (Qb (Qc.mk c false))),.n 14,.o (.any (.own 12 2) (some (.var [.loc 5 0 0,.loc 5 0 1]))),.cm (.fn) [(607,8),(608,12),(609,5)] [(8,607),(12,608),(5,609)] [] [.d,.d] [(607,.var (Qb a.1)),(608,.var [.loc 609 0 0,.loc 609 0 1]),(609,.var (QA a.2))] (.tup []),.n 5,.cm (.fn) [(607,8)] [(8,607)] [] [.d] [(607,.var (Qb f.2))] (.agg (Qae f.1)),.n 2,.O 5 (.var (QA (Q6.mk a.2.Do a.2.Id f.1 a.2.Num))),.n 6,.o (.any (.own 19 1) (some (.var [.loc 5 0 6]))),.cm (.fn) [(607,8),(608,19),(609,5)] [(8,607),(19,608),(5,609)] [] [.d,.d] [(607,.var (Qb b.1)),(608,.var [.loc 609 0 6]),(609,.var (QA b.2))] (.tup []),.n 5,.v .no [] (.agg (QA b.2)),.cm (.fn) [(607,8)] [(8,607)] [] [.d,.d] [(607,.var (Qb b.1))] (.tup [.agg (QA j.2),.I j.1]),.n 3,.O 2 (.var (QA j.2)),.n 4,.K [2,3] [2]] rfl ⟨⟨⟨⟨⟨⟨⟨⟨⟨⟨tt_,rfl⟩,(fun σ l m hf=>Stp.buildAny rfl rfl (Qw hC.n rfl) (Ql.es rfl) Qia rfl (by decide) (by decide) (Qcg l rfl) rfl rfl (hf rfl))⟩,(Qhe _ _ _ _ _ e)⟩,(Qe2 _ g)⟩,rfl⟩,(fun σ l m hf=>Stp.buildAny rfl rfl (Qw hC.n rfl) (Ql.es rfl) Qia rfl (by decide) (by decide) (Qcg l rfl) rfl rfl (hf rfl))⟩,(QfX _ _ i)⟩,rfl⟩,(QfY _ _ k)⟩,rfl⟩ ?_
 cases h
 exact AK.done (ex_ [_,_] (an_ (an_ (ex_ _ (ex_ _ (an_ rfl (an_ rfl (Or.inl (an_ (Ql.ag rfl) (an_ (Ql.sz rfl) rfl))))))) (an_ rfl tt_)) (QaQ tt_)))
def QfG (b:(List Int))(a:(Int×Int)):Option (List Int):=
 (Q9 b ([a.1,a.2]:List Int)).bind fun c=>
 some c
theorem Qju (c a){r}(h:QfG c a=some r):Qh prog 92 [.own 605 c.length,.agg (QH a)] [(605,.arr 1 (c.map Qn))] (Qq (.own 605 r.length) [(605,.arr 1 (r.map Qn))]):=by
 refine Qh.walk 8 func92 rfl rfl rfl fun C hC=>?_
 obtain⟨f,e,h⟩:=Qe h
 refine Qa hC [.n 9,.x (fun σ=>(σ.kill 3).put 6 (.sl 1 (([a.1,a.2]:List Int).map Qp))),.cm (.fn) [(605,605)] [(605,605)] [605] [.d,.d] [(605,.arr 1 (f.map Qn))] (.own 605 f.length),.n 4] rfl ⟨⟨tt_,(Stp.sliceVar (b:=3) rfl rfl (Qw hC.n rfl) rfl rfl rfl (Ql.ar rfl) rfl rfl rfl rfl rfl)⟩,(Qag _ _ e)⟩ ?_
 cases h
 exact d1_ rfl rfl ⟨rfl,tt_⟩
def QaW (d:QBg)(a:Int)(e:(List Int)):Option ((Int×(List Int))⊕(List Int)):=
 bif (decide (a<(d.length:Int)))then
 (idx d a).bind fun b=>
 (QfG e b).bind fun c=>
 some (.inl ((w64 (a+1)),c))
 else
 some (.inr e)
def QeN (a:(List Int)):Option (List Int):=
 some a
def Qd4 (b:(List Int))(a:QBg):Option (List Int):=
 (Q9 b ([(a.length:Int)]:List Int)).bind fun c=>
 (QK (fun st=>QaW a st.1 st.2) (0,c)).bind (fun q=>QeN q)
theorem Qib (k c){r}(h:Qd4 k c=some r):Qh prog 91 [.own 605 k.length,.sl 2 (c.map QH),.clo (.func 92) [] []] [(605,.arr 1 (k.map Qn))] (Qq (.own 605 r.length) [(605,.arr 1 (r.map Qn))]):=by
 refine Qh.walk 26 func91 rfl rfl rfl fun C hC=>?_
 obtain⟨p,l,h⟩:=Qe h
 refine Qa hC [.n 9,.o (.ln c.length),.v (.bd []) [] (.sl 1 (([(c.length:Int)]:List Int).map Qp)),.cm (.fn) [(605,605)] [(605,605)] [605] [.d,.d] [(605,.arr 1 (p.map Qn))] (.own 605 p.length),.n 7,.o (.ln c.length),.n 4,.K [0,2,14,15,16] [605]] rfl ⟨⟨⟨⟨tt_,Qk⟩,rfl⟩,(Qag _ _ l)⟩,Qk⟩ ?_
 obtain⟨m,f,h⟩:=Qe h
 refine AK.loop (body:=(fun st=>QaW c st.1 st.2)) (fun st σ=>σ=⟨[(0,.own 605 st.2.length),(2,.clo (.func 92) [] []),(14,.sl 2 (c.map QH)),(15,.I (c.length:Int)),(16,.I st.1)],[(605,.arr 1 (st.2.map Qn))]⟩) (fun q e σ=>e=.exit 0∧σ=⟨[(0,.own 605 q.length)],[(605,.arr 1 (q.map Qn))]⟩) f rfl ?_ ?_
 ·rintro ⟨s,t⟩ o σ rfl h
  refine tg_ hC [.n 6] rfl ?_
  rcases QP h with⟨a,h⟩|⟨a,h⟩
  ·obtain⟨b,g,h⟩:=Qe h
   obtain⟨i,j,h⟩:=Qe h
   refine Qa hC [.T,.n 6,.o (.row (QH b)),.v .no [] (.agg (QH b)),.n 2,.O 8 (.var (QH b)),.n 5,.v .no [] (.agg (QH b)),.cm (.clo) [(605,605)] [(605,605)] [605] [.d,.d] [(605,.arr 1 (i.map Qn))] (.own 605 i.length),.n 8,.K [0,2,14,15,16] [605]] rfl ⟨⟨⟨⟨⟨⟨tt_,a⟩,(Qbs g)⟩,rfl⟩,rfl⟩,rfl⟩,(Qju _ _ j)⟩ ?_
   cases h
   exact Qbl rfl rfl
  refine Qa hC [.F,.n 2,.K [0] [605]] rfl ⟨tt_,a⟩ ?_
  cases h
  exact Qbd rfl (an_ rfl rfl)
 replace h:QeN m=some r:=h
 rintro e σ ⟨rfl,rfl⟩
 refine tg_ hC [.n 9] rfl ?_
 cases h
 exact d1_ rfl rfl ⟨rfl,tt_⟩
def Qfs (a:(List Int))(b:QBg):Option (List Int):=
 (Qd4 a b).bind fun c=>
 some c
theorem Qki (a c){r}(h:Qfs a c=some r):Qh prog 57 [.own 605 a.length,.sl 2 (c.map QH)] [(605,.arr 1 (a.map Qn))] (Qq (.own 605 r.length) [(605,.arr 1 (r.map Qn))]):=by
 refine Qh.walk 8 func57 rfl rfl rfl fun C hC=>?_
 obtain⟨e,b,h⟩:=Qe h
 refine Qa hC [.n 9,.cm (.fn) [(605,605)] [(605,605)] [605] [.d,.d,.d] [(605,.arr 1 (e.map Qn))] (.own 605 e.length),.n 4] rfl ⟨tt_,(Qib _ _ b)⟩ ?_
 cases h
 exact d1_ rfl rfl ⟨rfl,tt_⟩
def QaJ (d:QMk)(a:Int)(e:(List Int)):Option ((Int×(List Int))⊕(List Int)):=
 bif (decide (a<(d.length:Int)))then
 (idx d a).bind fun b=>
 (Qfs e b).bind fun c=>
 some (.inl ((w64 (a+1)),c))
 else
 some (.inr e)
def Qea (a:(List Int)):Option (List Int):=
 some a
def Qdw (b:(List Int))(a:QMk):Option (List Int):=
 (Q9 b ([(a.length:Int)]:List Int)).bind fun c=>
 (QK (fun st=>QaJ a st.1 st.2) (0,c)).bind (fun q=>Qea q)
theorem Qhf (j b){r}(h:Qdw j b=some r):Qh prog 55 [.own 605 j.length,.sl 1 (b.map QS),.clo (.func 57) [] []] [(605,.arr 1 (j.map Qn))] (Qq (.own 605 r.length) [(605,.arr 1 (r.map Qn))]):=by
 refine Qh.walk 26 func55 rfl rfl rfl fun C hC=>?_
 obtain⟨p,k,h⟩:=Qe h
 refine Qa hC [.n 9,.o (.ln b.length),.v (.bd []) [] (.sl 1 (([(b.length:Int)]:List Int).map Qp)),.cm (.fn) [(605,605)] [(605,605)] [605] [.d,.d] [(605,.arr 1 (p.map Qn))] (.own 605 p.length),.n 7,.o (.ln b.length),.n 4,.K [0,2,14,15,16] [605]] rfl ⟨⟨⟨⟨tt_,Qk⟩,rfl⟩,(Qag _ _ k)⟩,Qk⟩ ?_
 obtain⟨l,c,h⟩:=Qe h
 refine AK.loop (body:=(fun st=>QaJ b st.1 st.2)) (fun st σ=>σ=⟨[(0,.own 605 st.2.length),(2,.clo (.func 57) [] []),(14,.sl 1 (b.map QS)),(15,.I (b.length:Int)),(16,.I st.1)],[(605,.arr 1 (st.2.map Qn))]⟩) (fun q e σ=>e=.exit 0∧σ=⟨[(0,.own 605 q.length)],[(605,.arr 1 (q.map Qn))]⟩) c rfl ?_ ?_
 ·rintro ⟨s,t⟩ o σ rfl h
  refine tg_ hC [.n 6] rfl ?_
  rcases QP h with⟨a,h⟩|⟨a,h⟩
  ·obtain⟨m,f,h⟩:=Qe h
   obtain⟨g,i,h⟩:=Qe h
   refine Qa hC [.T,.n 6,.o (.row (QS m)),.n 8,.cm (.clo) [(605,605)] [(605,605)] [605] [.d,.d] [(605,.arr 1 (g.map Qn))] (.own 605 g.length),.n 8,.K [0,2,14,15,16] [605]] rfl ⟨⟨⟨tt_,a⟩,(Qbs f)⟩,(Qki _ _ i)⟩ ?_
   cases h
   exact Qbl rfl rfl
  refine Qa hC [.F,.n 2,.K [0] [605]] rfl ⟨tt_,a⟩ ?_
  cases h
  exact Qbd rfl (an_ rfl rfl)
 replace h:Qea l=some r:=h
 rintro e σ ⟨rfl,rfl⟩
 refine tg_ hC [.n 9] rfl ?_
 cases h
 exact d1_ rfl rfl ⟨rfl,tt_⟩
def QeO (b:(List Int))(a:Qj):Option (List Int):=
 (Q9 b ([a.Id]:List Int)).bind fun c=>
 (QdL c a.Mode).bind fun d=>
 (Q9 d ([a.Batch.Most,a.Batch.Enough,a.Batch.Open,a.Batch.Done,a.Batch.Failed,a.Until]:List Int)).bind fun e=>
 some e
theorem QjT (c b){r}(h:QeO c b=some r):Qh prog 58 [.own 605 c.length,.agg (Qd b)] [(605,.arr 1 (c.map Qn))] (Qq (.own 605 r.length) [(605,.arr 1 (r.map Qn))]):=by
 refine Qh.walk 30 func58 rfl rfl rfl fun C hC=>?_
 obtain⟨i,e,h⟩:=Qe h
 obtain⟨j,f,h⟩:=Qe h
 obtain⟨k,g,h⟩:=Qe h
 refine Qa hC [.n 9,.v .no [] (.agg (Qat b.Batch)),.n 2,.O 5 (.var (Qat b.Batch)),.n 3,.K [0,3,4,5] [3,5,605]] rfl ⟨⟨tt_,rfl⟩,rfl⟩ ?_
 refine AK.draw2 Ql hC mixed [.N,.N,.N,.a (.bd []) (some ([],.sl 1 (([b.Id]:List Int).map Qp))) false,.m (.cm (.fn) [(605,605)] [(605,605)] [605] [.d,.d] [(605,.arr 1 (i.map Qn))] (.own 605 i.length) []),.a .no none true,.a .no (some ([],.agg (Qae b.Mode))) true,.m (.cm (.fn) [(605,605)] [(605,605)] [605] [.d,.d] [(605,.arr 1 (j.map Qn))] (.own 605 j.length) []),.a .no none true,.a .no none true,.a .no none true,.a .no none true,.a .no none true,.a .no none true,.a .no none true,.a .no none true,.a .no none true,.a .no none true,.a .no none true,.a .no none true,.a (.bd []) (some ([],.sl 1 (([b.Batch.Most,b.Batch.Enough,b.Batch.Open,b.Batch.Done,b.Batch.Failed,b.Until]:List Int).map Qp))) true,.m (.cm (.fn) [(605,605)] [(605,605)] [605] [.d,.d] [(605,.arr 1 (k.map Qn))] (.own 605 k.length) []),.m .s] [3,4,5] [3,5] [4] [605] rfl rfl rfl ⟨⟨⟨⟨⟨⟨tt_,rfl⟩,⟨tt_,(Qag _ _ e)⟩⟩,rfl⟩,⟨tt_,(QgQ _ _ f)⟩⟩,rfl⟩,⟨tt_,(Qag _ _ g)⟩⟩ rfl (by kernel_rfl) rfl rfl rfl ?_
 refine tg_ hC [.n 2] rfl ?_
 cases h
 exact d1_ rfl rfl ⟨rfl,tt_⟩
def QaC (d:(List Qj))(a:Int)(e:(List Int)):Option ((Int×(List Int))⊕(List Int)):=
 bif (decide (a<(d.length:Int)))then
 (idx d a).bind fun b=>
 (QeO e b).bind fun c=>
 some (.inl ((w64 (a+1)),c))
 else
 some (.inr e)
def QdZ (a:(List Int)):Option (List Int):=
 some a
def Qdb (b:(List Int))(a:(List Qj)):Option (List Int):=
 (Q9 b ([(a.length:Int)]:List Int)).bind fun c=>
 (QK (fun st=>QaC a st.1 st.2) (0,c)).bind (fun q=>QdZ q)
theorem Qgx (k c){r}(h:Qdb k c=some r):Qh prog 54 [.own 605 k.length,.sl 11 (c.map Qd),.clo (.func 58) [] []] [(605,.arr 1 (k.map Qn))] (Qq (.own 605 r.length) [(605,.arr 1 (r.map Qn))]):=by
 refine Qh.walk 26 func54 rfl rfl rfl fun C hC=>?_
 obtain⟨p,l,h⟩:=Qe h
 refine Qa hC [.n 9,.o (.ln c.length),.v (.bd []) [] (.sl 1 (([(c.length:Int)]:List Int).map Qp)),.cm (.fn) [(605,605)] [(605,605)] [605] [.d,.d] [(605,.arr 1 (p.map Qn))] (.own 605 p.length),.n 7,.o (.ln c.length),.n 4,.K [0,2,14,15,16] [605]] rfl ⟨⟨⟨⟨tt_,Qk⟩,rfl⟩,(Qag _ _ l)⟩,Qk⟩ ?_
 obtain⟨m,f,h⟩:=Qe h
 refine AK.loop (body:=(fun st=>QaC c st.1 st.2)) (fun st σ=>σ=⟨[(0,.own 605 st.2.length),(2,.clo (.func 58) [] []),(14,.sl 11 (c.map Qd)),(15,.I (c.length:Int)),(16,.I st.1)],[(605,.arr 1 (st.2.map Qn))]⟩) (fun q e σ=>e=.exit 0∧σ=⟨[(0,.own 605 q.length)],[(605,.arr 1 (q.map Qn))]⟩) f rfl ?_ ?_
 ·rintro ⟨s,t⟩ o σ rfl h
  refine tg_ hC [.n 6] rfl ?_
  rcases QP h with⟨a,h⟩|⟨a,h⟩
  ·obtain⟨b,g,h⟩:=Qe h
   obtain⟨i,j,h⟩:=Qe h
   refine Qa hC [.T,.n 6,.o (.row (Qd b)),.v .no [] (.agg (Qd b)),.n 2,.O 8 (.var (Qd b)),.n 5,.v .no [] (.agg (Qd b)),.cm (.clo) [(605,605)] [(605,605)] [605] [.d,.d] [(605,.arr 1 (i.map Qn))] (.own 605 i.length),.n 8,.K [0,2,14,15,16] [605]] rfl ⟨⟨⟨⟨⟨⟨tt_,a⟩,(Qbs g)⟩,rfl⟩,rfl⟩,rfl⟩,(QjT _ _ j)⟩ ?_
   cases h
   exact Qbl rfl rfl
  refine Qa hC [.F,.n 2,.K [0] [605]] rfl ⟨tt_,a⟩ ?_
  cases h
  exact Qbd rfl (an_ rfl rfl)
 replace h:QdZ m=some r:=h
 rintro e σ ⟨rfl,rfl⟩
 refine tg_ hC [.n 9] rfl ?_
 cases h
 exact d1_ rfl rfl ⟨rfl,tt_⟩
def Qa7 (a:QN):Option (List Int):=
 (Qfq ([a.Next,a.Now]:List Int)).bind fun b=>
 (Qdw b a.M).bind fun c=>
 (Qdb c a.Items).bind fun d=>
 some d
theorem QcW (b){r}(h:Qa7 b=some r):Qh prog 24 [.agg (QC b)] [] (Qq (.own 600 r.length) [(600,.arr 1 (r.map Qn))]):=by
 refine Qh.walk 15 func24 rfl rfl rfl fun C hC=>?_
 obtain⟨g,c,h⟩:=Qe h
 obtain⟨i,e,h⟩:=Qe h
 obtain⟨j,f,h⟩:=Qe h
 refine tg_ hC [.n 7,.K [1,2] [1]] rfl ?_
 refine AK.draw2 Ql hC mixed [.N,.N,.N,.N,.a (.bd []) (some ([],.sl 1 (([b.Next,b.Now]:List Int).map Qp))) false,.m (.cm (.fn) [] [(8,600)] [8] [.d,.d] [(600,.arr 1 (g.map Qn))] (.own 600 g.length) []),.a .no none true,.a .no none true,.m (.cm (.fn) [(605,8)] [(8,605)] [8] [.d,.d,.d] [(605,.arr 1 (i.map Qn))] (.own 605 i.length) []),.a .no none true,.a .no none true,.m (.cm (.fn) [(605,8)] [(8,605)] [8] [.d,.d,.d] [(605,.arr 1 (j.map Qn))] (.own 605 j.length) []),.m .s] [1,2] [1] [2] [8] rfl rfl rfl ⟨⟨⟨⟨tt_,rfl⟩,⟨tt_,(Qhs _ c)⟩⟩,⟨tt_,(Qhf _ _ e)⟩⟩,⟨tt_,(Qgx _ _ f)⟩⟩ rfl (by kernel_rfl) rfl rfl rfl ?_
 refine tg_ hC [.n 2,.K [2] [8],.ren 8 600] rfl ?_
 cases h
 exact d1_ rfl rfl ⟨rfl,tt_⟩
def QcG (c:Qc)(d:Int)(e:Int):Option (Qc×QN):=
 (Qo c).bind fun a=>
 (Qo a.2).bind fun b=>
 some (b.2,(QN.mk ([]:List QBg) ([]:List Qj) a.1 b.1))
theorem QfZ (k l f){r}(h:QcG k l f=some r):Qh prog 67 [.loc 607 0 0,.own 608 2] [(607,.var (Qb k)),(608,.var [.loc 609 0 2,.loc 609 0 3]),(609,.var [.lit (.slice none 0 0),.lit (.slice none 0 0),.I l,.I f])] (Qq (.tup []) [(607,.var (Qb r.1)),(608,.var [.loc 609 0 2,.loc 609 0 3]),(609,.var (QC r.2))]):=by
 refine Qh.walk 17 func67 rfl rfl rfl fun C hC=>?_
 refine tg_ hC [.n 8] rfl ?_
 refine AK.loopN 3 (AK.rnd ?_)
 obtain⟨a,g,h⟩:=Qe h
 refine Qa hC [.n 2,.v .no [] (.b true),.n 10,.o (.any (.loc 608 0 0) none),.n 7,.cm (.fn) [(607,607)] [(607,607)] [] [.d] [(607,.var (Qb a.2))] (.I a.1),.n 2,.O 609 (.var [.lit (.slice none 0 0),.lit (.slice none 0 0),.I a.1,.I f]),.n 4,.v .no [] (.I 1),.n 2] rfl ⟨⟨⟨⟨⟨tt_,rfl⟩,(fun σ c i _=>Stp.idxV rfl rfl (Qw hC.n rfl) (c _ _ rfl) (c _ _ rfl) (Ql.es rfl) (i _ _ rfl) (by decide))⟩,(Qr _ g)⟩,rfl⟩,rfl⟩ ?_
 refine AK.met (AK.rnd ?_)
 obtain⟨e,j,h⟩:=Qe h
 refine Qa hC [.n 2,.v .no [] (.b true),.n 10,.o (.any (.loc 608 0 1) none),.n 7,.cm (.fn) [(607,607)] [(607,607)] [] [.d] [(607,.var (Qb e.2))] (.I e.1),.n 2,.O 609 (.var [.lit (.slice none 0 0),.lit (.slice none 0 0),.I a.1,.I e.1]),.n 4,.v .no [] (.I 2),.n 2] rfl ⟨⟨⟨⟨⟨tt_,rfl⟩,(fun σ c i _=>Stp.idxV rfl rfl (Qw hC.n rfl) (c _ _ rfl) (c _ _ rfl) (Ql.es rfl) (i _ _ rfl) (by decide))⟩,(Qr _ j)⟩,rfl⟩,rfl⟩ ?_
 refine AK.met (AK.rnd ?_)
 refine Qa hC [.n 2,.v .no [] (.b false),.n 8,.denilO 609 [some 1,some 11,none,none],.O 609 (.var (QC (QN.mk ([]:List QBg) ([]:List Qj) a.1 e.1))),.K [] [607,608,609]] rfl ⟨⟨tt_,rfl⟩,rfl⟩ ?_
 cases h
 refine AK.done ?_
 exact ex_ [] (an_ tt_ (QaQ ⟨rfl,rfl,rfl,tt_⟩))
def QcH (c:Qc)(d:(Int×Int)):Option (Qc×(Int×Int)):=
 (Qo c).bind fun a=>
 (Qo a.2).bind fun b=>
 some (b.2,(a.1,b.1))
theorem Qf0 (k e){r}(h:QcH k e=some r):Qh prog 67 [.loc 607 0 0,.own 608 2] [(607,.var (Qb k)),(608,.var [.loc 609 0 0,.loc 609 0 1]),(609,.var (QH e))] (Qq (.tup []) [(607,.var (Qb r.1)),(608,.var [.loc 609 0 0,.loc 609 0 1]),(609,.var (QH r.2))]):=by
 refine Qh.walk 17 func67 rfl rfl rfl fun C hC=>?_
 refine tg_ hC [.n 8] rfl ?_
 refine AK.loopN 3 (AK.rnd ?_)
 obtain⟨c,f,h⟩:=Qe h
 refine Qa hC [.n 2,.v .no [] (.b true),.n 10,.o (.any (.loc 608 0 0) none),.n 7,.cm (.fn) [(607,607)] [(607,607)] [] [.d] [(607,.var (Qb c.2))] (.I c.1),.n 2,.O 609 (.var (QH (c.1,e.2))),.n 4,.v .no [] (.I 1),.n 2] rfl ⟨⟨⟨⟨⟨tt_,rfl⟩,(fun σ a g _=>Stp.idxV rfl rfl (Qw hC.n rfl) (a _ _ rfl) (a _ _ rfl) (Ql.es rfl) (g _ _ rfl) (by decide))⟩,(Qr _ f)⟩,rfl⟩,rfl⟩ ?_
 refine AK.met (AK.rnd ?_)
 obtain⟨i,j,h⟩:=Qe h
 refine Qa hC [.n 2,.v .no [] (.b true),.n 10,.o (.any (.loc 608 0 1) none),.n 7,.cm (.fn) [(607,607)] [(607,607)] [] [.d] [(607,.var (Qb i.2))] (.I i.1),.n 2,.O 609 (.var (QH (c.1,i.1))),.n 4,.v .no [] (.I 2),.n 2] rfl ⟨⟨⟨⟨⟨tt_,rfl⟩,(fun σ a g _=>Stp.idxV rfl rfl (Qw hC.n rfl) (a _ _ rfl) (a _ _ rfl) (Ql.es rfl) (g _ _ rfl) (by decide))⟩,(Qr _ j)⟩,rfl⟩,rfl⟩ ?_
 refine AK.met (AK.rnd ?_)
 refine Qa hC [.n 2,.v .no [] (.b false),.n 8,.K [] [607,608,609]] rfl ⟨tt_,rfl⟩ ?_
 cases h
 refine AK.done ?_
 exact ex_ [] (an_ tt_ (QaQ ⟨rfl,rfl,rfl,tt_⟩))
def QbW (b:Qc):Option ((Int×Int)×Qc):=
 (QcH b (0,0)).bind fun a=>
 some (a.2,a.1)
theorem Qic (c){r}(h:QbW c=some r):Qh prog 100 [.loc 607 0 0] [(607,.var (Qb c))] (Qq (.agg (QH r.1)) [(607,.var (Qb r.2))]):=by
 refine Qh.walk 10 func100 rfl rfl rfl fun C hC=>?_
 obtain⟨a,b,h⟩:=Qe h
 refine Qa hC [.n 15,.o (.any (.own 7 2) (some (.var [.loc 3 0 0,.loc 3 0 1]))),.cm (.fn) [(607,607),(608,7),(609,3)] [(607,607),(7,608),(3,609)] [] [.d,.d] [(607,.var (Qb a.1)),(608,.var [.loc 609 0 0,.loc 609 0 1]),(609,.var (QH a.2))] (.tup []),.n 4,.v .no [] (.agg (QH a.2)),.n 1,.O 2 (.var (QH a.2)),.n 3,.K [2] [2,607]] rfl ⟨⟨⟨⟨tt_,(fun σ e f hf=>Stp.buildAny rfl rfl (Qw hC.n rfl) (Ql.es rfl) Qia rfl (by decide) (by decide) (Qcg e rfl) rfl rfl (hf rfl))⟩,(Qf0 _ _ b)⟩,rfl⟩,rfl⟩ ?_
 cases h
 exact AK.done (ex_ [_] (an_ (an_ (ex_ _ (ex_ _ (an_ rfl (an_ rfl (Or.inl (an_ (Ql.ag rfl) (an_ (Ql.sz rfl) rfl))))))) tt_) (QaQ ⟨rfl,tt_⟩)))
def Qeu (a:(Int×Qc)):Option Qc:=
 bif a.2.bad then
 some (Qc.mk a.2.b true)
 else
 some (Qc.mk a.2.b (decide (a.1<0)))
def Qaw (e:(Int×Qc))(d:Int)(a:Qc)(b:QBg):Option ((Int×Qc×QBg)⊕(QBg×Qc)):=
 bif ((decide (d<e.1))&&(!a.bad))then
 (QbW a).bind fun c=>
 (chk (decide (b.length+([c.1]:List (Int×Int)).length≤4294967296))).bind fun _=>
 some (.inl ((w64 (d+1)),c.2,(b++([c.1]:List (Int×Int)))))
 else
 some (.inr (b,a))
def Qev (a:QBg)(b:Qc):Option (QBg×Qc):=
 some (a,b)
def QcX (a:(Int×Qc))(b:Qc):Option (QBg×Qc):=
 (QK (fun st=>Qaw a st.1 st.2.1 st.2.2) (0,b,([]:List (Int×Int)))).bind (fun q=>Qev q.1 q.2)
def QbM (b:Qc):Option (QBg×Qc):=
 (Qo b).bind fun a=>
 (Qeu a).bind (fun c=>QcX a c)
theorem Qht (A){r}(h:QbM A=some r):Qh prog 99 [.loc 607 0 0,.clo (.func 100) [] []] [(607,.var (Qb A))] (Qq (.own 600 r.1.length) [(600,.arr 2 (r.1.map QH)),(607,.var (Qb r.2))]):=by
 refine Qh.walk 40 func99 rfl rfl rfl fun C hC=>?_
 obtain⟨c,t,h⟩:=Qe h
 refine Qa hC [.n 8,.cm (.fn) [(607,607)] [(607,607)] [] [.d] [(607,.var (Qb c.2))] (.I c.1),.n 4] rfl ⟨tt_,(Qr _ t)⟩ ?_
 obtain⟨u,w,h⟩:=Qe h
 replace h:QcX c u=some r:=h
 refine AK.meetX (fun σ=>σ=⟨[(0,.loc 607 0 0),(1,.clo (.func 100) [] []),(5,.I c.1)],[(607,.var (Qb u))]⟩) ?_ ?_
 ·replace h:=w
  refine tg_ hC [.n 7] rfl ?_
  refine bg_ h (fun k h=>Qa hC [.S 15 (.b true),.n 6,.O 607 (.var (Qb (Qc.mk c.2.b true))),.n 1,.K [0,1,5] [607]] rfl ⟨(tc_ k),rfl⟩ ?_) fun k h=>Qa hC [.S 15 (.b false),.n 6,.O 607 (.var (Qb (Qc.mk c.2.b (decide (c.1<0))))),.n 1,.K [0,1,5] [607]] rfl ⟨(tc_ k),rfl⟩ ?_
  ·cases h
   exact AK.met rfl
  cases h
  exact AK.met rfl
 rintro σ rfl
 replace h:QcX c u=some r:=h
 refine Qa hC [.n 13,.adopt 6 33 2,.O 33 (.arr 2 (([]:List (Int×Int)).map QH)),.S 6 (.own 33 ([]:List (Int×Int)).length),.K [0,1,5,6,7] [33,607]] rfl ⟨⟨tt_,rfl⟩,(congrArg (fun n=>V.own 33 n) (by simp))⟩ ?_
 obtain⟨x,l,h⟩:=Qe h
 refine AK.loop (body:=(fun st=>Qaw c st.1 st.2.1 st.2.2)) (fun st σ=>σ=⟨[(0,.loc 607 0 0),(1,.clo (.func 100) [] []),(5,.I c.1),(6,.own 33 st.2.2.length),(7,.I st.1)],[(33,.arr 2 (st.2.2.map QH)),(607,.var (Qb st.2.1))]⟩) (fun q e σ=>e=.exit 0∧σ=⟨[(6,.own 33 q.1.length)],[(33,.arr 2 (q.1.map QH)),(607,.var (Qb q.2))]⟩) l rfl ?_ ?_
 ·rintro ⟨m,i,j⟩ o σ rfl h
  refine tg_ hC [.n 2] rfl ?_
  refine AK.meetX (fun σ=>σ=⟨[(0,.loc 607 0 0),(1,.clo (.func 100) [] []),(5,.I c.1),(6,.own 33 j.length),(7,.I m),(30,.b ((decide (m<c.1))&&(!i.bad)))],[(33,.arr 2 (j.map QH)),(607,.var (Qb i))]⟩) ?_ ?_
  ·refine tg_ hC [.n 5] rfl ?_
   rcases Qcd (decide (m<c.1))with a | a
   ·refine Qa hC [.S 24 (.b true),.n 7,.S 30 (.b ((decide (m<c.1))&&(!i.bad))),.K [0,1,5,6,7,30] [33,607]] rfl ⟨(tc_ a),(congrArg V.b (QhP a rfl))⟩ ?_
    exact AK.met rfl
   refine Qa hC [.S 24 (.b false),.n 7,.S 30 (.b ((decide (m<c.1))&&(!i.bad))),.K [0,1,5,6,7,30] [33,607]] rfl ⟨(tc_ a),(congrArg V.b (QhQ a rfl))⟩ ?_
   exact AK.met rfl
  rintro σ rfl
  refine tg_ hC [.n 1] rfl ?_
  rcases QP h with⟨f,h⟩|⟨f,h⟩
  ·obtain⟨g,p,h⟩:=Qe h
   obtain⟨s,h⟩:=QcD h
   refine Qa hC [.T,.n 8,.cm (.clo) [(607,607)] [(607,607)] [] [.d] [(607,.var (Qb g.2))] (.agg (QH g.1)),.v (.bd []) [] (.sl 2 (([g.1]:List (Int×Int)).map QH)),.app ((j++([g.1]:List (Int×Int))).map QH) (j++([g.1]:List (Int×Int))).length,.n 9,.K [0,1,5,6,7] [33,607]] rfl ⟨⟨⟨⟨tt_,f⟩,(Qic _ p)⟩,rfl⟩,⟨Qk,Qd7 s Qk,QcQ,Qfn Qk⟩⟩ ?_
   cases h
   exact Qbl rfl rfl
  refine Qa hC [.F,.n 2,.K [6] [33,607]] rfl ⟨tt_,f⟩ ?_
  cases h
  exact Qbd rfl (an_ rfl rfl)
 obtain⟨y,z⟩:=x
 replace h:Qev y z=some r:=h
 rintro e σ ⟨rfl,rfl⟩
 refine tg_ hC [.n 9,.K [4] [33,607],.ren 33 600] rfl ?_
 cases h
 exact d1_ rfl rfl ⟨rfl,rfl,tt_⟩
def QcB (b:Qc):Option (QBg×Qc):=
 (QbM b).bind fun a=>
 some (a.1,a.2)
theorem QiR (c){r}(h:QcB c=some r):Qh prog 69 [.loc 607 0 0] [(607,.var (Qb c))] (Qq (.own 600 r.1.length) [(600,.arr 2 (r.1.map QH)),(607,.var (Qb r.2))]):=by
 refine Qh.walk 5 func69 rfl rfl rfl fun C hC=>?_
 obtain⟨a,b,h⟩:=Qe h
 refine Qa hC [.n 8,.cm (.fn) [(607,607)] [(4,600),(607,607)] [] [.d,.d] [(600,.arr 2 (a.1.map QH)),(607,.var (Qb a.2))] (.own 600 a.1.length),.n 4,.K [2] [4,607],.ren 4 600] rfl ⟨tt_,(Qht _ b)⟩ ?_
 cases h
 exact d1_ rfl rfl ⟨rfl,rfl,tt_⟩
def Qd0 (a:(Int×Qc)):Option Qc:=
 bif a.2.bad then
 some (Qc.mk a.2.b true)
 else
 some (Qc.mk a.2.b (decide (a.1<0)))
def Qah (e:(Int×Qc))(d:Int)(a:Qc)(b:QMk):Option ((Int×Qc×QMk)⊕(QMk×Qc)):=
 bif ((decide (d<e.1))&&(!a.bad))then
 (QcB a).bind fun c=>
 (chk (decide (b.length+([c.1]:List QBg).length≤4294967296))).bind fun _=>
 some (.inl ((w64 (d+1)),c.2,(b++([c.1]:List QBg))))
 else
 some (.inr (b,a))
def Qd1 (a:QMk)(b:Qc):Option (QMk×Qc):=
 some (a,b)
def Qcp (a:(Int×Qc))(b:Qc):Option (QMk×Qc):=
 (QK (fun st=>Qah a st.1 st.2.1 st.2.2) (0,b,([]:List QBg))).bind (fun q=>Qd1 q.1 q.2)
def Qbm (b:Qc):Option (QMk×Qc):=
 (Qo b).bind fun a=>
 (Qd0 a).bind (fun c=>Qcp a c)
theorem Qgy (A){r}(h:Qbm A=some r):Qh prog 68 [.loc 607 0 0,.clo (.func 69) [] []] [(607,.var (Qb A))] (Qq (.own 600 r.1.length) [(600,.arr 1 (r.1.map QS)),(607,.var (Qb r.2))]):=by
 refine Qh.walk 40 func68 rfl rfl rfl fun C hC=>?_
 obtain⟨c,t,h⟩:=Qe h
 refine Qa hC [.n 8,.cm (.fn) [(607,607)] [(607,607)] [] [.d] [(607,.var (Qb c.2))] (.I c.1),.n 4] rfl ⟨tt_,(Qr _ t)⟩ ?_
 obtain⟨u,w,h⟩:=Qe h
 replace h:Qcp c u=some r:=h
 refine AK.meetX (fun σ=>σ=⟨[(0,.loc 607 0 0),(1,.clo (.func 69) [] []),(5,.I c.1)],[(607,.var (Qb u))]⟩) ?_ ?_
 ·replace h:=w
  refine tg_ hC [.n 7] rfl ?_
  refine bg_ h (fun k h=>Qa hC [.S 15 (.b true),.n 6,.O 607 (.var (Qb (Qc.mk c.2.b true))),.n 1,.K [0,1,5] [607]] rfl ⟨(tc_ k),rfl⟩ ?_) fun k h=>Qa hC [.S 15 (.b false),.n 6,.O 607 (.var (Qb (Qc.mk c.2.b (decide (c.1<0))))),.n 1,.K [0,1,5] [607]] rfl ⟨(tc_ k),rfl⟩ ?_
  ·cases h
   exact AK.met rfl
  cases h
  exact AK.met rfl
 rintro σ rfl
 replace h:Qcp c u=some r:=h
 refine Qa hC [.n 13,.adopt 6 33 1,.O 33 (.arr 1 (([]:List QBg).map QS)),.S 6 (.own 33 ([]:List QBg).length),.K [0,1,5,6,7] [33,607]] rfl ⟨⟨tt_,rfl⟩,(congrArg (fun n=>V.own 33 n) (by simp))⟩ ?_
 obtain⟨x,l,h⟩:=Qe h
 refine AK.loop (body:=(fun st=>Qah c st.1 st.2.1 st.2.2)) (fun st σ=>σ=⟨[(0,.loc 607 0 0),(1,.clo (.func 69) [] []),(5,.I c.1),(6,.own 33 st.2.2.length),(7,.I st.1)],[(33,.arr 1 (st.2.2.map QS)),(607,.var (Qb st.2.1))]⟩) (fun q e σ=>e=.exit 0∧σ=⟨[(6,.own 33 q.1.length)],[(33,.arr 1 (q.1.map QS)),(607,.var (Qb q.2))]⟩) l rfl ?_ ?_
 ·rintro ⟨m,i,j⟩ o σ rfl h
  refine tg_ hC [.n 2] rfl ?_
  refine AK.meetX (fun σ=>σ=⟨[(0,.loc 607 0 0),(1,.clo (.func 69) [] []),(5,.I c.1),(6,.own 33 j.length),(7,.I m),(30,.b ((decide (m<c.1))&&(!i.bad)))],[(33,.arr 1 (j.map QS)),(607,.var (Qb i))]⟩) ?_ ?_
  ·refine tg_ hC [.n 5] rfl ?_
   rcases Qcd (decide (m<c.1))with a | a
   ·refine Qa hC [.S 24 (.b true),.n 7,.S 30 (.b ((decide (m<c.1))&&(!i.bad))),.K [0,1,5,6,7,30] [33,607]] rfl ⟨(tc_ a),(congrArg V.b (QhP a rfl))⟩ ?_
    exact AK.met rfl
   refine Qa hC [.S 24 (.b false),.n 7,.S 30 (.b ((decide (m<c.1))&&(!i.bad))),.K [0,1,5,6,7,30] [33,607]] rfl ⟨(tc_ a),(congrArg V.b (QhQ a rfl))⟩ ?_
   exact AK.met rfl
  rintro σ rfl
  refine tg_ hC [.n 1] rfl ?_
  rcases QP h with⟨g,h⟩|⟨g,h⟩
  ·obtain⟨f,p,h⟩:=Qe h
   obtain⟨s,h⟩:=QcD h
   refine Qa hC [.T,.n 8,.cm (.clo) [(607,607)] [(36,600),(607,607)] [] [.d] [(600,.arr 2 (f.1.map QH)),(607,.var (Qb f.2))] (.own 600 f.1.length),.frz 36 (f.1.map QH) [36] [],.v (.bd []) [] (.sl 1 (([f.1]:List QBg).map QS)),.app ((j++([f.1]:List QBg)).map QS) (j++([f.1]:List QBg)).length,.n 9,.K [0,1,5,6,7] [33,607]] rfl ⟨⟨⟨⟨⟨tt_,g⟩,(QiR _ p)⟩,⟨tt_,(QbT Qk)⟩⟩,rfl⟩,⟨Qk,Qd7 s Qk,QcQ,Qfn Qk⟩⟩ ?_
   cases h
   exact Qbl rfl rfl
  refine Qa hC [.F,.n 2,.K [6] [33,607]] rfl ⟨tt_,g⟩ ?_
  cases h
  exact Qbd rfl (an_ rfl rfl)
 obtain⟨y,z⟩:=x
 replace h:Qd1 y z=some r:=h
 rintro e σ ⟨rfl,rfl⟩
 refine tg_ hC [.n 9,.K [4] [33,607],.ren 33 600] rfl ?_
 cases h
 exact d1_ rfl rfl ⟨rfl,rfl,tt_⟩
def QcI (h:Qc)(b:Qj):Option (Qc×Qj):=
 (Qo h).bind fun c=>
 (Qo c.2).bind fun d=>
 (Qo d.2).bind fun e=>
 (Qo e.2).bind fun f=>
 (Qo f.2).bind fun g=>
 (Qo g.2).bind fun a=>
 some (a.2,(Qj.mk b.Id b.Mode (Qab.mk c.1 d.1 e.1 f.1 g.1) a.1))
theorem Qf1 (w a){r}(h:QcI w a=some r):Qh prog 67 [.loc 607 0 0,.own 608 6] [(607,.var (Qb w)),(608,.var [.loc 609 0 5,.loc 609 0 6,.loc 609 0 7,.loc 609 0 8,.loc 609 0 9,.loc 609 0 10]),(609,.var (Qd a))] (Qq (.tup []) [(607,.var (Qb r.1)),(608,.var [.loc 609 0 5,.loc 609 0 6,.loc 609 0 7,.loc 609 0 8,.loc 609 0 9,.loc 609 0 10]),(609,.var (Qd r.2))]):=by
 refine Qh.walk 17 func67 rfl rfl rfl fun C hC=>?_
 refine tg_ hC [.n 8] rfl ?_
 refine AK.loopN 7 (AK.rnd ?_)
 obtain⟨f,p,h⟩:=Qe h
 refine Qa hC [.n 2,.v .no [] (.b true),.n 10,.o (.any (.loc 608 0 0) none),.n 7,.cm (.fn) [(607,607)] [(607,607)] [] [.d] [(607,.var (Qb f.2))] (.I f.1),.n 2,.O 609 (.var (Qd (Qj.mk a.Id a.Mode (Qab.mk f.1 a.Batch.Enough a.Batch.Open a.Batch.Done a.Batch.Failed) a.Until))),.n 4,.v .no [] (.I 1),.n 2] rfl ⟨⟨⟨⟨⟨tt_,rfl⟩,(fun σ c e _=>Stp.idxV rfl rfl (Qw hC.n rfl) (c _ _ rfl) (c _ _ rfl) (Ql.es rfl) (e _ _ rfl) (by decide))⟩,(Qr _ p)⟩,rfl⟩,rfl⟩ ?_
 refine AK.met (AK.rnd ?_)
 obtain⟨g,q,h⟩:=Qe h
 refine Qa hC [.n 2,.v .no [] (.b true),.n 10,.o (.any (.loc 608 0 1) none),.n 7,.cm (.fn) [(607,607)] [(607,607)] [] [.d] [(607,.var (Qb g.2))] (.I g.1),.n 2,.O 609 (.var (Qd (Qj.mk a.Id a.Mode (Qab.mk f.1 g.1 a.Batch.Open a.Batch.Done a.Batch.Failed) a.Until))),.n 4,.v .no [] (.I 2),.n 2] rfl ⟨⟨⟨⟨⟨tt_,rfl⟩,(fun σ c e _=>Stp.idxV rfl rfl (Qw hC.n rfl) (c _ _ rfl) (c _ _ rfl) (Ql.es rfl) (e _ _ rfl) (by decide))⟩,(Qr _ q)⟩,rfl⟩,rfl⟩ ?_
 refine AK.met (AK.rnd ?_)
 obtain⟨j,s,h⟩:=Qe h
 refine Qa hC [.n 2,.v .no [] (.b true),.n 10,.o (.any (.loc 608 0 2) none),.n 7,.cm (.fn) [(607,607)] [(607,607)] [] [.d] [(607,.var (Qb j.2))] (.I j.1),.n 2,.O 609 (.var (Qd (Qj.mk a.Id a.Mode (Qab.mk f.1 g.1 j.1 a.Batch.Done a.Batch.Failed) a.Until))),.n 4,.v .no [] (.I 3),.n 2] rfl ⟨⟨⟨⟨⟨tt_,rfl⟩,(fun σ c e _=>Stp.idxV rfl rfl (Qw hC.n rfl) (c _ _ rfl) (c _ _ rfl) (Ql.es rfl) (e _ _ rfl) (by decide))⟩,(Qr _ s)⟩,rfl⟩,rfl⟩ ?_
 refine AK.met (AK.rnd ?_)
 obtain⟨k,t,h⟩:=Qe h
 refine Qa hC [.n 2,.v .no [] (.b true),.n 10,.o (.any (.loc 608 0 3) none),.n 7,.cm (.fn) [(607,607)] [(607,607)] [] [.d] [(607,.var (Qb k.2))] (.I k.1),.n 2,.O 609 (.var (Qd (Qj.mk a.Id a.Mode (Qab.mk f.1 g.1 j.1 k.1 a.Batch.Failed) a.Until))),.n 4,.v .no [] (.I 4),.n 2] rfl ⟨⟨⟨⟨⟨tt_,rfl⟩,(fun σ c e _=>Stp.idxV rfl rfl (Qw hC.n rfl) (c _ _ rfl) (c _ _ rfl) (Ql.es rfl) (e _ _ rfl) (by decide))⟩,(Qr _ t)⟩,rfl⟩,rfl⟩ ?_
 refine AK.met (AK.rnd ?_)
 obtain⟨m,u,h⟩:=Qe h
 refine Qa hC [.n 2,.v .no [] (.b true),.n 10,.o (.any (.loc 608 0 4) none),.n 7,.cm (.fn) [(607,607)] [(607,607)] [] [.d] [(607,.var (Qb m.2))] (.I m.1),.n 2,.O 609 (.var (Qd (Qj.mk a.Id a.Mode (Qab.mk f.1 g.1 j.1 k.1 m.1) a.Until))),.n 4,.v .no [] (.I 5),.n 2] rfl ⟨⟨⟨⟨⟨tt_,rfl⟩,(fun σ c e _=>Stp.idxV rfl rfl (Qw hC.n rfl) (c _ _ rfl) (c _ _ rfl) (Ql.es rfl) (e _ _ rfl) (by decide))⟩,(Qr _ u)⟩,rfl⟩,rfl⟩ ?_
 refine AK.met (AK.rnd ?_)
 obtain⟨i,l,h⟩:=Qe h
 refine Qa hC [.n 2,.v .no [] (.b true),.n 10,.o (.any (.loc 608 0 5) none),.n 7,.cm (.fn) [(607,607)] [(607,607)] [] [.d] [(607,.var (Qb i.2))] (.I i.1),.n 2,.O 609 (.var (Qd (Qj.mk a.Id a.Mode (Qab.mk f.1 g.1 j.1 k.1 m.1) i.1))),.n 4,.v .no [] (.I 6),.n 2] rfl ⟨⟨⟨⟨⟨tt_,rfl⟩,(fun σ c e _=>Stp.idxV rfl rfl (Qw hC.n rfl) (c _ _ rfl) (c _ _ rfl) (Ql.es rfl) (e _ _ rfl) (by decide))⟩,(Qr _ l)⟩,rfl⟩,rfl⟩ ?_
 refine AK.met (AK.rnd ?_)
 refine Qa hC [.n 2,.v .no [] (.b false),.n 8,.K [] [607,608,609]] rfl ⟨tt_,rfl⟩ ?_
 cases h
 refine AK.done ?_
 exact ex_ [] (an_ tt_ (QaQ ⟨rfl,rfl,rfl,tt_⟩))
def Qch (d:Qc):Option (Qj×Qc):=
 (Qo d).bind fun a=>
 (QbE a.2).bind fun b=>
 (QcI b.2 (Qj.mk a.1 b.1 (Qab.mk 0 0 0 0 0) 0)).bind fun c=>
 some (c.2,c.1)
theorem Qis (j){r}(h:Qch j=some r):Qh prog 71 [.loc 607 0 0] [(607,.var (Qb j))] (Qq (.agg (Qd r.1)) [(607,.var (Qb r.2))]):=by
 refine Qh.walk 31 func71 rfl rfl rfl fun C hC=>?_
 obtain⟨c,f,h⟩:=Qe h
 obtain⟨e,g,h⟩:=Qe h
 obtain⟨b,i,h⟩:=Qe h
 refine Qa hC [.n 8,.cm (.fn) [(607,607)] [(607,607)] [] [.d] [(607,.var (Qb c.2))] (.I c.1),.n 1,.cm (.fn) [(607,607)] [(607,607)] [] [.d] [(607,.var (Qb e.2))] (.agg (Qae e.1)),.v .no [] (.agg (Qd (Qj.mk c.1 e.1 (Qab.mk 0 0 0 0 0) 0))),.n 2,.O 3 (.var (Qd (Qj.mk c.1 e.1 (Qab.mk 0 0 0 0 0) 0))),.n 9,.K [0,2,3,4] [2,3,607]] rfl ⟨⟨⟨⟨tt_,(Qr _ f)⟩,(Qe2 _ g)⟩,rfl⟩,rfl⟩ ?_
 refine AK.draw2 Ql hC mixed [.N,.N,.N,.N,.N,.N,.N,.N,.N,.N,.N,.N,.N,.N,.N,.N,.N,.a (.any (.own 28 6) (some (.var [.loc 3 0 5,.loc 3 0 6,.loc 3 0 7,.loc 3 0 8,.loc 3 0 9,.loc 3 0 10]))) none false,.m (.cm (.fn) [(607,607),(608,28),(609,3)] [(607,607),(28,608),(3,609)] [] [.d,.d] [(607,.var (Qb b.1)),(608,.var [.loc 609 0 5,.loc 609 0 6,.loc 609 0 7,.loc 609 0 8,.loc 609 0 9,.loc 609 0 10]),(609,.var (Qd b.2))] (.tup []) [28])] [] [] [2,3] [2,3,607] rfl rfl rfl ⟨⟨tt_,(fun σ k l hf=>Stp.buildAny rfl rfl (Qw hC.n rfl) (Ql.es rfl) Qia rfl (by decide) (by decide) (Qcg k rfl) rfl rfl (hf rfl))⟩,⟨⟨tt_,(Qf1 _ _ i)⟩,⟨rfl,tt_⟩⟩⟩ rfl (by kernel_rfl) rfl rfl rfl ?_
 refine Qa hC [.O 3 (.var (Qd b.2)),.O 607 (.var (Qb b.1)),.n 3,.v .no [] (.agg (Qd b.2)),.n 1,.O 2 (.var (Qd b.2)),.n 3,.K [2] [2,607]] rfl ⟨⟨⟨⟨tt_,rfl⟩,rfl⟩,rfl⟩,rfl⟩ ?_
 cases h
 exact AK.done (ex_ [_] (an_ (an_ (ex_ _ (ex_ _ (an_ rfl (an_ rfl (Or.inl (an_ (Ql.ag rfl) (an_ (Ql.sz rfl) rfl))))))) tt_) (QaQ ⟨rfl,tt_⟩)))
def QdM (a:(Int×Qc)):Option Qc:=
 bif a.2.bad then
 some (Qc.mk a.2.b true)
 else
 some (Qc.mk a.2.b (decide (a.1<0)))
def Qac (e:(Int×Qc))(d:Int)(a:Qc)(b:(List Qj)):Option ((Int×Qc×(List Qj))⊕((List Qj)×Qc)):=
 bif ((decide (d<e.1))&&(!a.bad))then
 (Qch a).bind fun c=>
 (chk (decide (b.length+([c.1]:List Qj).length≤4294967296))).bind fun _=>
 some (.inl ((w64 (d+1)),c.2,(b++([c.1]:List Qj))))
 else
 some (.inr (b,a))
def QdN (a:(List Qj))(b:Qc):Option ((List Qj)×Qc):=
 some (a,b)
def Qci (a:(Int×Qc))(b:Qc):Option ((List Qj)×Qc):=
 (QK (fun st=>Qac a st.1 st.2.1 st.2.2) (0,b,([]:List Qj))).bind (fun q=>QdN q.1 q.2)
def Qa8 (b:Qc):Option ((List Qj)×Qc):=
 (Qo b).bind fun a=>
 (QdM a).bind (fun c=>Qci a c)
theorem Qgi (A){r}(h:Qa8 A=some r):Qh prog 70 [.loc 607 0 0,.clo (.func 71) [] []] [(607,.var (Qb A))] (Qq (.own 600 r.1.length) [(600,.arr 11 (r.1.map Qd)),(607,.var (Qb r.2))]):=by
 refine Qh.walk 40 func70 rfl rfl rfl fun C hC=>?_
 obtain⟨c,t,h⟩:=Qe h
 refine Qa hC [.n 8,.cm (.fn) [(607,607)] [(607,607)] [] [.d] [(607,.var (Qb c.2))] (.I c.1),.n 4] rfl ⟨tt_,(Qr _ t)⟩ ?_
 obtain⟨u,w,h⟩:=Qe h
 replace h:Qci c u=some r:=h
 refine AK.meetX (fun σ=>σ=⟨[(0,.loc 607 0 0),(1,.clo (.func 71) [] []),(5,.I c.1)],[(607,.var (Qb u))]⟩) ?_ ?_
 ·replace h:=w
  refine tg_ hC [.n 7] rfl ?_
  refine bg_ h (fun k h=>Qa hC [.S 15 (.b true),.n 6,.O 607 (.var (Qb (Qc.mk c.2.b true))),.n 1,.K [0,1,5] [607]] rfl ⟨(tc_ k),rfl⟩ ?_) fun k h=>Qa hC [.S 15 (.b false),.n 6,.O 607 (.var (Qb (Qc.mk c.2.b (decide (c.1<0))))),.n 1,.K [0,1,5] [607]] rfl ⟨(tc_ k),rfl⟩ ?_
  ·cases h
   exact AK.met rfl
  cases h
  exact AK.met rfl
 rintro σ rfl
 replace h:Qci c u=some r:=h
 refine Qa hC [.n 13,.adopt 6 33 11,.O 33 (.arr 11 (([]:List Qj).map Qd)),.S 6 (.own 33 ([]:List Qj).length),.K [0,1,5,6,7] [33,607]] rfl ⟨⟨tt_,rfl⟩,(congrArg (fun n=>V.own 33 n) (by simp))⟩ ?_
 obtain⟨x,l,h⟩:=Qe h
 refine AK.loop (body:=(fun st=>Qac c st.1 st.2.1 st.2.2)) (fun st σ=>σ=⟨[(0,.loc 607 0 0),(1,.clo (.func 71) [] []),(5,.I c.1),(6,.own 33 st.2.2.length),(7,.I st.1)],[(33,.arr 11 (st.2.2.map Qd)),(607,.var (Qb st.2.1))]⟩) (fun q e σ=>e=.exit 0∧σ=⟨[(6,.own 33 q.1.length)],[(33,.arr 11 (q.1.map Qd)),(607,.var (Qb q.2))]⟩) l rfl ?_ ?_
 ·rintro ⟨m,i,j⟩ o σ rfl h
  refine tg_ hC [.n 2] rfl ?_
  refine AK.meetX (fun σ=>σ=⟨[(0,.loc 607 0 0),(1,.clo (.func 71) [] []),(5,.I c.1),(6,.own 33 j.length),(7,.I m),(30,.b ((decide (m<c.1))&&(!i.bad)))],[(33,.arr 11 (j.map Qd)),(607,.var (Qb i))]⟩) ?_ ?_
  ·refine tg_ hC [.n 5] rfl ?_
   rcases Qcd (decide (m<c.1))with a | a
   ·refine Qa hC [.S 24 (.b true),.n 7,.S 30 (.b ((decide (m<c.1))&&(!i.bad))),.K [0,1,5,6,7,30] [33,607]] rfl ⟨(tc_ a),(congrArg V.b (QhP a rfl))⟩ ?_
    exact AK.met rfl
   refine Qa hC [.S 24 (.b false),.n 7,.S 30 (.b ((decide (m<c.1))&&(!i.bad))),.K [0,1,5,6,7,30] [33,607]] rfl ⟨(tc_ a),(congrArg V.b (QhQ a rfl))⟩ ?_
   exact AK.met rfl
  rintro σ rfl
  refine tg_ hC [.n 1] rfl ?_
  rcases QP h with⟨f,h⟩|⟨f,h⟩
  ·obtain⟨g,p,h⟩:=Qe h
   obtain⟨s,h⟩:=QcD h
   refine Qa hC [.T,.n 8,.cm (.clo) [(607,607)] [(607,607)] [] [.d] [(607,.var (Qb g.2))] (.agg (Qd g.1)),.v (.bd []) [] (.sl 11 (([g.1]:List Qj).map Qd)),.app ((j++([g.1]:List Qj)).map Qd) (j++([g.1]:List Qj)).length,.n 9,.K [0,1,5,6,7] [33,607]] rfl ⟨⟨⟨⟨tt_,f⟩,(Qis _ p)⟩,rfl⟩,⟨Qk,Qd7 s Qk,QcQ,Qfn Qk⟩⟩ ?_
   cases h
   exact Qbl rfl rfl
  refine Qa hC [.F,.n 2,.K [6] [33,607]] rfl ⟨tt_,f⟩ ?_
  cases h
  exact Qbd rfl (an_ rfl rfl)
 obtain⟨y,z⟩:=x
 replace h:QdN y z=some r:=h
 rintro e σ ⟨rfl,rfl⟩
 refine tg_ hC [.n 9,.K [4] [33,607],.ren 33 600] rfl ?_
 cases h
 exact d1_ rfl rfl ⟨rfl,rfl,tt_⟩
def Qal (a:Qc)(c:QN):Option (Int×QN):=
 bif (a.bad||(decide (0<(a.b.length:Int))))then
 some (4,(QN.mk ([]:QMk) ([]:(List Qj)) 0 0))
 else
 some (0,c)
theorem Qf2 (a e){r}(h:Qal a e=some r):Qh prog 72 [.loc 607 0 0,.agg (QC e)] [(607,.var (Qb a))] (Qq (.tup [.agg (QC r.2),.I r.1]) [(607,.var (Qb a))]):=by
 refine Qh.walk 21 func72 rfl rfl rfl fun C hC=>?_
 refine tg_ hC [.n 9] rfl ?_
 refine AK.meetX (fun σ=>σ=⟨[(3,.loc 3 0 0),(4,.loc 4 0 0),(18,.b (a.bad||(decide (0<(a.b.length:Int)))))],[(3,.var (QC e)),(4,.var [.lit (.slice none 0 0),.lit (.slice none 0 0),.I 0,.I 0]),(607,.var (Qb a))]⟩) ?_ ?_
 ·refine tg_ hC [.n 6] rfl ?_
  rcases Qcd a.bad with c | c
  ·refine Qa hC [.S 11 (.b true),.n 8,.S 18 (.b (a.bad||(decide (0<(a.b.length:Int))))),.K [3,4,18] [3,4,607]] rfl ⟨(tc_ c),(congrArg V.b (orT c rfl))⟩ ?_
   exact AK.met rfl
  refine Qa hC [.S 11 (.b false),.n 4,.o (.ln a.b.length),.n 3,.S 18 (.b (a.bad||(decide (0<(a.b.length:Int))))),.K [3,4,18] [3,4,607]] rfl ⟨⟨(tc_ c),Qk⟩,(congrArg V.b (orF c rfl))⟩ ?_
  exact AK.met rfl
 rintro σ rfl
 refine tg_ hC [.n 1] rfl ?_
 refine bg_ h (fun d h=>Qa hC [.T,.n 7,.v .no [some 1,some 11,none,none] (.agg (QC (QN.mk ([]:QMk) ([]:(List Qj)) 0 0))),.n 1,.O 4 (.var (QC (QN.mk ([]:QMk) ([]:(List Qj)) 0 0))),.n 5,.K [4,5] [4,607]] rfl ⟨⟨⟨tt_,d⟩,rfl⟩,rfl⟩ ?_) fun d h=>Qa hC [.F,.n 4,.v .no [] (.agg (QC e)),.n 1,.O 4 (.var (QC e)),.n 4,.K [4,5] [4,607]] rfl ⟨⟨⟨tt_,d⟩,rfl⟩,rfl⟩ ?_
 ·cases h
  exact AK.done (ex_ [_,_] (an_ (an_ (ex_ _ (ex_ _ (an_ rfl (an_ rfl (Or.inl (an_ (Ql.ag rfl) (an_ (Ql.sz rfl) rfl))))))) (an_ rfl tt_)) (QaQ ⟨rfl,tt_⟩)))
 cases h
 exact AK.done (ex_ [_,_] (an_ (an_ (ex_ _ (ex_ _ (an_ rfl (an_ rfl (Or.inl (an_ (Ql.ag rfl) (an_ (Ql.sz rfl) rfl))))))) (an_ rfl tt_)) (QaQ ⟨rfl,tt_⟩)))
def QaS (e:(List Int)):Option (Int×QN):=
 (QcG (Qc.mk e false) 0 0).bind fun a=>
 (Qbm a.1).bind fun b=>
 (Qa8 b.2).bind fun c=>
 (Qal c.2 (QN.mk b.1 c.1 a.2.Next a.2.Now)).bind fun d=>
 some (d.1,d.2)
theorem QcY (e){r}(h:QaS e=some r):Qh prog 30 [.sl 1 (e.map Qn)] [] (Qq (.tup [.agg (QC r.2),.I r.1]) []):=by
 refine Qh.walk 25 func30 rfl rfl rfl fun C hC=>?_
 obtain⟨a,f,h⟩:=Qe h
 obtain⟨b,g,h⟩:=Qe h
 obtain⟨c,i,h⟩:=Qe h
 obtain⟨j,k,h⟩:=Qe h
 refine Qa hC [.n 9,.v .no [] (.agg (Qb (Qc.mk e false))),.n 14,.o (.any (.own 12 2) (some (.var [.loc 5 0 2,.loc 5 0 3]))),.cm (.fn) [(607,8),(608,12),(609,5)] [(8,607),(12,608),(5,609)] [] [.d,.d] [(607,.var (Qb a.1)),(608,.var [.loc 609 0 2,.loc 609 0 3]),(609,.var (QC a.2))] (.tup []),.n 5,.cm (.fn) [(607,8)] [(15,600),(8,607)] [] [.d,.d] [(600,.arr 1 (b.1.map QS)),(607,.var (Qb b.2))] (.own 600 b.1.length),.n 2,.O 5 (.var [.own 15 b.1.length,.sl 11 (a.2.Items.map Qd),.I a.2.Next,.I a.2.Now]),.n 5,.cm (.fn) [(607,8)] [(18,600),(8,607)] [] [.d,.d] [(600,.arr 11 (c.1.map Qd)),(607,.var (Qb c.2))] (.own 600 c.1.length),.n 2,.O 5 (.var [.own 15 b.1.length,.own 18 c.1.length,.I a.2.Next,.I a.2.Now]),.n 6,.frz 15 (b.1.map QS) [15,21] [5],.frz 18 (c.1.map Qd) [18,21] [5],.cm (.fn) [(607,8)] [(8,607)] [] [.d,.d] [(607,.var (Qb c.2))] (.tup [.agg (QC j.2),.I j.1]),.n 3,.O 2 (.var (QC j.2)),.n 4,.K [2,3] [2]] rfl ⟨⟨⟨⟨⟨⟨⟨⟨⟨⟨⟨tt_,rfl⟩,(fun σ l m hf=>Stp.buildAny rfl rfl (Qw hC.n rfl) (Ql.es rfl) Qia rfl (by decide) (by decide) (Qcg l rfl) rfl rfl (hf rfl))⟩,(QfZ _ _ _ f)⟩,(Qgy _ g)⟩,rfl⟩,(Qgi _ i)⟩,rfl⟩,⟨⟨⟨tt_,(QbT Qk)⟩,⟨(QbT Qk),⟨tt_,tt_⟩⟩⟩,⟨(QbT Qk),⟨tt_,tt_⟩⟩⟩⟩,⟨⟨⟨tt_,(QbT Qk)⟩,⟨(QbT Qk),tt_⟩⟩,⟨(QbT Qk),tt_⟩⟩⟩,(Qf2 _ _ k)⟩,rfl⟩ ?_
 cases h
 exact AK.done (ex_ [_,_] (an_ (an_ (ex_ _ (ex_ _ (an_ rfl (an_ rfl (Or.inl (an_ (Ql.ag rfl) (an_ (Ql.sz rfl) rfl))))))) (an_ rfl tt_)) (QaQ tt_)))
def Qhu (a:Qj)(b:Int):Option Bool:=
 some (a.Id==b)
theorem Qjb (c a){r}(h:Qhu c a=some r):Qh prog 43 [.agg (Qd c),.loc 607 0 0] [(607,.var (Qp a))] (Qq (.b r) [(607,.var (Qp a))]):=by
 refine Qh.walk 8 func43 rfl rfl rfl fun C hC=>?_
 refine tg_ hC [.n 16] rfl ?_
 cases h
 exact d1_ rfl rfl ⟨rfl,tt_⟩
def Qa9 (c:(List Qj))(d:Int)(a:Int):Option (Int⊕(Int⊕Unit)):=
 bif (decide (a<(c.length:Int)))then
 (idx c a).bind fun e=>
 (Qhu e d).bind fun b=>
 bif b then
 some (.inr (.inl a))
 else
 some (.inl (w64 (a+1)))
 else
 some (.inr (.inr ()))
def Qba (a:Int):Option Int:=
 some a
def Qbb : Option Int:=
 some (-1)
def Qbr (a:(List Qj))(b:Int):Option Int:=
 (QK (fun st=>Qa9 a b st) 0).bind (Sum.elim (fun q=>Qba q) (fun q=>Qbb))
theorem QcZ (g c){r}(h:Qbr g c=some r):Qh prog 37 [.sl 11 (g.map Qd),.clo (.func 43) [] [.loc 607 0 0]] [(607,.var (Qp c))] (Qq (.I r) [(607,.var (Qp c))]):=by
 refine Qh.walk 19 func37 rfl rfl rfl fun C hC=>?_
 refine Qa hC [.n 9,.o (.ln g.length),.n 4,.K [0,1,7,8] [607]] rfl ⟨tt_,Qk⟩ ?_
 obtain⟨k,i,h⟩:=Qe h
 refine AK.loop (body:=(fun st=>Qa9 g c st)) (fun st σ=>σ=⟨[(0,.sl 11 (g.map Qd)),(1,.clo (.func 43) [] [.loc 607 0 0]),(7,.I (g.length:Int)),(8,.I st)],[(607,.var (Qp c))]⟩) (Sum.elim (fun q e σ=>e=.ret∧σ=⟨[(4,.I q)],[(607,.var (Qp c))]⟩) (fun q e σ=>e=.exit 0∧σ=⟨[],[(607,.var (Qp c))]⟩)) i rfl ?_ ?_
 ·rintro t o σ rfl h
  refine tg_ hC [.n 6] rfl ?_
  rcases QP h with⟨f,h⟩|⟨f,h⟩
  ·obtain⟨p,l,h⟩:=Qe h
   obtain⟨m,j,h⟩:=Qe h
   refine Qa hC [.T,.n 15,.o (.row (Qd p)),.v .no [] (.agg (Qd p)),.cm (.clo) [(607,607)] [(607,607)] [] [.d,.d] [(607,.var (Qp c))] (.b m),.n 2] rfl ⟨⟨⟨⟨tt_,f⟩,(Qbs l)⟩,rfl⟩,(Qjb _ _ j)⟩ ?_
   refine bg_ h (fun a h=>Qa hC [.T,.n 9,.K [4] [607]] rfl ⟨tt_,a⟩ ?_) fun a h=>Qa hC [.F,.n 7,.K [0,1,7,8] [607]] rfl ⟨tt_,a⟩ ?_
   ·cases h
    exact QhY rfl (an_ rfl rfl)
   cases h
   exact Qbl rfl rfl
  refine Qa hC [.F,.n 2,.K [] [607]] rfl ⟨tt_,f⟩ ?_
  cases h
  exact Qbd rfl (an_ rfl rfl)
 rcases k with(s | _)
 ·replace h:Qba s=some r:=h
  rintro e σ ⟨rfl,rfl⟩
  refine tg_ hC [.n 2] rfl ?_
  cases h
  exact d1_ rfl rfl ⟨rfl,tt_⟩
 replace h:Qbb=some r:=h
 rintro e σ ⟨rfl,rfl⟩
 refine tg_ hC [.n 8] rfl ?_
 cases h
 exact d1_ rfl rfl ⟨rfl,tt_⟩
def Qgj (b:(List Qj))(a:Int):Option Int:=
 (Qbr b a).bind fun c=>
 some c
theorem QgR (c a){r}(h:Qgj c a=some r):Qh prog 16 [.sl 11 (c.map Qd),.I a] [] (Qq (.I r) []):=by
 refine Qh.walk 8 func16 rfl rfl rfl fun C hC=>?_
 obtain⟨e,b,h⟩:=Qe h
 refine Qa hC [.n 10,.cm (.fn) [(607,3)] [(3,607)] [] [.d,.d] [(607,.var (Qp a))] (.I e),.n 4] rfl ⟨tt_,(QcZ _ _ b)⟩ ?_
 cases h
 exact d1_ rfl rfl tt_
def Qjh  : Option ((List (Int×(Option Nat)))×(List Qf)):=
 some (([]:(List (Int×(Option Nat)))),([]:List Qf))
theorem Qkj (gA:Nat→Nat)  {r:((List (Int×(Option Nat)))×(List Qf))}(h:Qjh  = some r):Qh prog 44 [] [] (Qq (.loc 3 0 0) [(1,.map (QE V.I (QI gA) r.1)),(3,.var [.lit (.slice none 0 0),.map 1]),(601,.tbl gA 3 (r.2.map Qg))]):=by
 refine Qh.walk 4 func44 rfl rfl rfl fun C hC=>?_
 refine tg_ hC [.n 7] rfl ?_
 refine AK.newTbl 601 3 gA rfl rfl ?_
 refine Qa hC [.O 601 (.tbl gA 3 (([]:List Qf).map Qg)),.n 1,.O 1 (.map (QE V.I (QI gA) ([]:(List (Int×(Option Nat)))))),.v .no [] (.agg [.lit (.slice none 0 0),.map 1]),.n 5] rfl ⟨⟨⟨tt_,rfl⟩,rfl⟩,rfl⟩ ?_
 cases h
 exact d1_ rfl rfl ⟨rfl,rfl,rfl,tt_⟩
def Qd5 (a:(List (Option Nat)))(b:(List (Int×(Option Nat))))(c:(List Qf)):Option Int:=
 some (a.length:Int)
theorem QeP (gA:Nat→Nat)(a:(List (Option Nat)))(b:(List (Int×(Option Nat))))(c:(List Qf)){r:Int}(h:Qd5 a b c=some r):Qh prog 84 [.loc 607 0 0] [(607,.var [.own 605 a.length,.map 608]),(605,.arr 1 (a.map (Qz gA))),(608,.map (QE V.I (QI gA) b)),(609,.tbl gA 3 (c.map Qg))] (Qq (.I r) [(605,.arr 1 (a.map (Qz gA))),(607,.var [.own 605 a.length,.map 608]),(608,.map (QE V.I (QI gA) b)),(609,.tbl gA 3 (c.map Qg))]):=by
 refine Qh.walk 8 func84 rfl rfl rfl fun C hC=>?_
 refine tg_ hC [.n 16] rfl ?_
 cases h
 exact d1_ rfl rfl ⟨rfl,rfl,rfl,rfl,tt_⟩
def QeQ (a:(List (Option Nat)))(f:(List (Int×(Option Nat))))(b:(Option Nat))(c:(List Qf)):Option ((List (Option Nat))×(List Qf)):=
 (b).bind fun d=>
 (c[d]?).bind fun e=>
 (chk (decide (a.length+([b]:List (Option Nat)).length≤4294967296))).bind fun _=>
 some ((a++([b]:List (Option Nat))),(c.set d (Qf.mk e.id e.at_ (a.length:Int))))
theorem Qgz (gA:Nat→Nat)(a:(List (Option Nat)))(d:(List (Int×(Option Nat))))(c:(Option Nat))(e:(List Qf)){r:((List (Option Nat))×(List Qf))}(h:QeQ a d c e=some r):Qh prog 128 [.loc 607 0 0,.ifc 116 (QI gA c)] [(607,.var [.own 605 a.length,.map 608]),(605,.arr 1 (a.map (Qz gA))),(608,.map (QE V.I (QI gA) d)),(609,.tbl gA 3 (e.map Qg))] (Qq (.tup []) [(605,.arr 1 (r.1.map (Qz gA))),(607,.var [.own 605 r.1.length,.map 608]),(608,.map (QE V.I (QI gA) d)),(609,.tbl gA 3 (r.2.map Qg))]):=by
 refine Qh.walk 22 func128 rfl rfl rfl fun C hC=>?_
 obtain⟨f,g,h⟩:=Qe h
 obtain⟨l,i,h⟩:=Qe h
 obtain⟨j,h⟩:=QcD h
 refine Qa hC [.n 14,.o (.any (QaE gA 0 f) none),.o (.any (QaE gA 2 f) none),.x (fun σ=>σ.set 609 (.tbl gA 3 ((e.set f (Qf.mk l.id l.at_ (a.length:Int))).map Qg))),.n 8,.v (.bd []) [] (.sl 1 (([c]:List (Option Nat)).map (Qz gA))),.app ((a++([c]:List (Option Nat))).map (Qz gA)) (a++([c]:List (Option Nat))).length,.n 2,.O 607 (.var [.own 605 (a++([c]:List (Option Nat))).length,.map 608]),.n 1,.K [] [605,607,608,609]] rfl ⟨⟨⟨⟨⟨⟨tt_,(fun σ k m _=>Stp.nilCheckP rfl rfl (Qw hC.n rfl) (k _ _ rfl) g)⟩,(fun σ k m _=>Stp.fieldP rfl rfl (Qw hC.n rfl) (k _ _ rfl) (Ql.fo rfl rfl) rfl)⟩,(Stp.storeP (b:=609) rfl rfl rfl rfl (QT i) rfl rfl rfl rfl (Ql.sz rfl) (QiC rfl))⟩,rfl⟩,⟨Qk,Qd7 j Qk,QcQ,Qfn Qk⟩⟩,rfl⟩ ?_
 cases h
 refine AK.done ?_
 exact ex_ [] (an_ tt_ (QaQ ⟨rfl,rfl,rfl,rfl,tt_⟩))
def Qdx (a:(List (Option Nat)))(b:(List Qf)):Option Int:=
 some (a.length:Int)
theorem Qeb (gA:Nat→Nat)(a:(List (Option Nat)))(b:(List Qf)){r:Int}(h:Qdx a b=some r):Qh prog 124 [.own 607 a.length] [(607,.arr 1 (a.map (Qz gA))),(608,.tbl gA 3 (b.map Qg))] (Qq (.I r) [(607,.arr 1 (a.map (Qz gA))),(608,.tbl gA 3 (b.map Qg))]):=by
 refine Qh.walk 5 func124 rfl rfl rfl fun C hC=>?_
 refine tg_ hC [.n 13] rfl ?_
 cases h
 exact d1_ rfl rfl ⟨rfl,rfl,tt_⟩
def QgA (a:(List (Option Nat)))(c:Int)(b:(List Qf))(d:Int):Option Bool:=
 (idx a c).bind fun u=>
 (u).bind fun v=>
 (b[v]?).bind fun e=>
 (idx a d).bind fun f=>
 (f).bind fun g=>
 (b[g]?).bind fun h=>
 bif (decide (e.at_<h.at_))then
 some true
 else
 (idx a c).bind fun i=>
 (i).bind fun j=>
 (b[j]?).bind fun k=>
 (idx a d).bind fun l=>
 (l).bind fun m=>
 (b[m]?).bind fun n=>
 bif (k.at_==n.at_)then
 (idx a c).bind fun o=>
 (o).bind fun p=>
 (b[p]?).bind fun q=>
 (idx a d).bind fun r=>
 (r).bind fun s=>
 (b[s]?).bind fun t=>
 some (decide (q.id<t.id))
 else
 some false
def Qcq (a:Bool):Option Bool:=
 some a
def Qb1 (a:(List (Option Nat)))(b:Int)(c:Int)(d:(List Qf)):Option Bool:=
 (QgA a b d c).bind (fun e=>Qcq e)
theorem Qcr (gA:Nat→Nat)(H:(List (Option Nat)))(i2:Int)(k3:Int)(Y:(List Qf)){r:Bool}(h:Qb1 H i2 k3 Y=some r):Qh prog 125 [.own 607 H.length,.I i2,.I k3] [(607,.arr 1 (H.map (Qz gA))),(608,.tbl gA 3 (Y.map Qg))] (Qq (.b r) [(607,.arr 1 (H.map (Qz gA))),(608,.tbl gA 3 (Y.map Qg))]):=by
 refine Qh.walk 56 func125 rfl rfl rfl fun C hC=>?_
 refine tg_ hC [.n 6] rfl ?_
 obtain⟨Z,a0,h⟩:=Qe h
 replace h:Qcq Z=some r:=h
 refine AK.meetX (fun σ=>σ=⟨[(6,.b Z)],[(607,.arr 1 (H.map (Qz gA))),(608,.tbl gA 3 (Y.map Qg))]⟩) ?_ ?_
 ·replace h:=a0
  obtain⟨e8,j,h⟩:=Qe h
  obtain⟨G,B,h⟩:=Qe h
  obtain⟨D,l,h⟩:=Qe h
  obtain⟨E,e,h⟩:=Qe h
  obtain⟨k,o,h⟩:=Qe h
  obtain⟨F,p,h⟩:=Qe h
  refine tg_ hC [.K [0,1,2,6] [607,608]] rfl ?_
  rcases QP h with⟨f,h⟩|⟨f,h⟩
  ·refine AK.draw2 Ql hC mixed [.N,.N,.N,.a (.row ((Qz gA) e8)) none false,.a (.any (QaE gA 0 G) none) none false,.a (.any (QaE gA 1 G) none) none false,.a (.any (.I D.at_) none) none false,.N,.N,.N,.a (.row ((Qz gA) E)) none false,.a (.any (QaE gA 0 k) none) none false,.a (.any (QaE gA 1 k) none) none false,.a (.any (.I F.at_) none) none false,.N,.a .no (some ([],.b true)) false,.N,.N,.N,.N,.N,.N,.N,.N,.N,.N,.N,.N,.N,.N,.N,.N,.N,.N,.N,.N,.N,.N,.N,.N,.N,.N,.N,.N,.N,.N,.N,.N,.N,.m .s] [] [] [6] [607,608] rfl rfl rfl ⟨⟨⟨⟨⟨⟨⟨⟨⟨⟨⟨tt_,(Qbx j rfl)⟩,(QT (QbJ j).2)⟩,(fun σ c d _=>Stp.nilCheckP rfl rfl (Qw hC.n rfl) (c _ _ rfl) B)⟩,(fun σ c d _=>Stp.fieldP rfl rfl (Qw hC.n rfl) (c _ _ rfl) (Ql.fo rfl rfl) rfl)⟩,(fun σ c d _=>Stp.loadP (b:=608) rfl rfl (Qw hC.n rfl) (c _ _ rfl) (d _ _ rfl) (Ql.ag rfl) (QT l) rfl)⟩,(Qbx e rfl)⟩,(QT (QbJ e).2)⟩,(fun σ c d _=>Stp.nilCheckP rfl rfl (Qw hC.n rfl) (c _ _ rfl) o)⟩,(fun σ c d _=>Stp.fieldP rfl rfl (Qw hC.n rfl) (c _ _ rfl) (Ql.fo rfl rfl) rfl)⟩,(fun σ c d _=>Stp.loadP (b:=608) rfl rfl (Qw hC.n rfl) (c _ _ rfl) (d _ _ rfl) (Ql.ag rfl) (QT p) rfl)⟩,(cb_ f)⟩ rfl (by kernel_rfl) rfl rfl rfl ?_
   refine tg_ hC [.K [6] [607,608]] rfl ?_
   cases h
   exact AK.met rfl
  obtain⟨J,g,h⟩:=Qe h
  obtain⟨t,v,h⟩:=Qe h
  obtain⟨L,w,h⟩:=Qe h
  obtain⟨M,i,h⟩:=Qe h
  obtain⟨u,x,h⟩:=Qe h
  obtain⟨O,y,h⟩:=Qe h
  rcases QP h with⟨q,h⟩|⟨q,h⟩
  ·obtain⟨a1,z,h⟩:=Qe h
   obtain⟨P,S,h⟩:=Qe h
   obtain⟨a2,T,h⟩:=Qe h
   obtain⟨a3,A,h⟩:=Qe h
   obtain⟨U,W,h⟩:=Qe h
   obtain⟨a4,X,h⟩:=Qe h
   refine AK.draw2 Ql hC mixed [.N,.N,.N,.a (.row ((Qz gA) e8)) none false,.a (.any (QaE gA 0 G) none) none false,.a (.any (QaE gA 1 G) none) none false,.a (.any (.I D.at_) none) none false,.N,.N,.N,.a (.row ((Qz gA) E)) none false,.a (.any (QaE gA 0 k) none) none false,.a (.any (QaE gA 1 k) none) none false,.a (.any (.I F.at_) none) none false,.N,.a .no (some ([],.b false)) false,.N,.N,.N,.a (.row ((Qz gA) J)) none false,.a (.any (QaE gA 0 t) none) none false,.a (.any (QaE gA 1 t) none) none false,.a (.any (.I L.at_) none) none false,.N,.N,.N,.a (.row ((Qz gA) M)) none false,.a (.any (QaE gA 0 u) none) none false,.a (.any (QaE gA 1 u) none) none false,.a (.any (.I O.at_) none) none false,.N,.a .no (some ([],.b true)) false,.N,.N,.N,.a (.row ((Qz gA) a1)) none false,.a (.any (QaE gA 0 P) none) none false,.a (.any (QaE gA 0 P) none) none false,.a (.any (.I a2.id) none) none false,.N,.N,.N,.a (.row ((Qz gA) a3)) none false,.a (.any (QaE gA 0 U) none) none false,.a (.any (QaE gA 0 U) none) none false,.a (.any (.I a4.id) none) none false,.N,.N,.N,.m .s] [] [] [6] [607,608] rfl rfl rfl ⟨⟨⟨⟨⟨⟨⟨⟨⟨⟨⟨⟨⟨⟨⟨⟨⟨⟨⟨⟨⟨⟨⟨⟨⟨⟨⟨⟨⟨⟨⟨⟨tt_,(Qbx j rfl)⟩,(QT (QbJ j).2)⟩,(fun σ c d _=>Stp.nilCheckP rfl rfl (Qw hC.n rfl) (c _ _ rfl) B)⟩,(fun σ c d _=>Stp.fieldP rfl rfl (Qw hC.n rfl) (c _ _ rfl) (Ql.fo rfl rfl) rfl)⟩,(fun σ c d _=>Stp.loadP (b:=608) rfl rfl (Qw hC.n rfl) (c _ _ rfl) (d _ _ rfl) (Ql.ag rfl) (QT l) rfl)⟩,(Qbx e rfl)⟩,(QT (QbJ e).2)⟩,(fun σ c d _=>Stp.nilCheckP rfl rfl (Qw hC.n rfl) (c _ _ rfl) o)⟩,(fun σ c d _=>Stp.fieldP rfl rfl (Qw hC.n rfl) (c _ _ rfl) (Ql.fo rfl rfl) rfl)⟩,(fun σ c d _=>Stp.loadP (b:=608) rfl rfl (Qw hC.n rfl) (c _ _ rfl) (d _ _ rfl) (Ql.ag rfl) (QT p) rfl)⟩,(cb_ f)⟩,(Qbx g rfl)⟩,(QT (QbJ g).2)⟩,(fun σ c d _=>Stp.nilCheckP rfl rfl (Qw hC.n rfl) (c _ _ rfl) v)⟩,(fun σ c d _=>Stp.fieldP rfl rfl (Qw hC.n rfl) (c _ _ rfl) (Ql.fo rfl rfl) rfl)⟩,(fun σ c d _=>Stp.loadP (b:=608) rfl rfl (Qw hC.n rfl) (c _ _ rfl) (d _ _ rfl) (Ql.ag rfl) (QT w) rfl)⟩,(Qbx i rfl)⟩,(QT (QbJ i).2)⟩,(fun σ c d _=>Stp.nilCheckP rfl rfl (Qw hC.n rfl) (c _ _ rfl) x)⟩,(fun σ c d _=>Stp.fieldP rfl rfl (Qw hC.n rfl) (c _ _ rfl) (Ql.fo rfl rfl) rfl)⟩,(fun σ c d _=>Stp.loadP (b:=608) rfl rfl (Qw hC.n rfl) (c _ _ rfl) (d _ _ rfl) (Ql.ag rfl) (QT y) rfl)⟩,(cb_ q)⟩,(Qbx z rfl)⟩,(QT (QbJ z).2)⟩,(fun σ c d _=>Stp.nilCheckP rfl rfl (Qw hC.n rfl) (c _ _ rfl) S)⟩,(fun σ c d _=>Stp.fieldP rfl rfl (Qw hC.n rfl) (c _ _ rfl) (Ql.fo rfl rfl) rfl)⟩,(fun σ c d _=>Stp.loadP (b:=608) rfl rfl (Qw hC.n rfl) (c _ _ rfl) (d _ _ rfl) (Ql.ag rfl) (QT T) rfl)⟩,(Qbx A rfl)⟩,(QT (QbJ A).2)⟩,(fun σ c d _=>Stp.nilCheckP rfl rfl (Qw hC.n rfl) (c _ _ rfl) W)⟩,(fun σ c d _=>Stp.fieldP rfl rfl (Qw hC.n rfl) (c _ _ rfl) (Ql.fo rfl rfl) rfl)⟩,(fun σ c d _=>Stp.loadP (b:=608) rfl rfl (Qw hC.n rfl) (c _ _ rfl) (d _ _ rfl) (Ql.ag rfl) (QT X) rfl)⟩ rfl (by kernel_rfl) rfl rfl rfl ?_
   refine tg_ hC [.K [6] [607,608]] rfl ?_
   cases h
   exact AK.met rfl
  refine AK.draw2 Ql hC mixed [.N,.N,.N,.a (.row ((Qz gA) e8)) none false,.a (.any (QaE gA 0 G) none) none false,.a (.any (QaE gA 1 G) none) none false,.a (.any (.I D.at_) none) none false,.N,.N,.N,.a (.row ((Qz gA) E)) none false,.a (.any (QaE gA 0 k) none) none false,.a (.any (QaE gA 1 k) none) none false,.a (.any (.I F.at_) none) none false,.N,.a .no (some ([],.b false)) false,.N,.N,.N,.a (.row ((Qz gA) J)) none false,.a (.any (QaE gA 0 t) none) none false,.a (.any (QaE gA 1 t) none) none false,.a (.any (.I L.at_) none) none false,.N,.N,.N,.a (.row ((Qz gA) M)) none false,.a (.any (QaE gA 0 u) none) none false,.a (.any (QaE gA 1 u) none) none false,.a (.any (.I O.at_) none) none false,.N,.a .no (some ([],.b false)) false,.N,.N,.N,.N,.N,.N,.N,.N,.N,.N,.N,.N,.N,.N,.N,.N,.N,.m .s] [] [] [6] [607,608] rfl rfl rfl ⟨⟨⟨⟨⟨⟨⟨⟨⟨⟨⟨⟨⟨⟨⟨⟨⟨⟨⟨⟨⟨⟨tt_,(Qbx j rfl)⟩,(QT (QbJ j).2)⟩,(fun σ c d _=>Stp.nilCheckP rfl rfl (Qw hC.n rfl) (c _ _ rfl) B)⟩,(fun σ c d _=>Stp.fieldP rfl rfl (Qw hC.n rfl) (c _ _ rfl) (Ql.fo rfl rfl) rfl)⟩,(fun σ c d _=>Stp.loadP (b:=608) rfl rfl (Qw hC.n rfl) (c _ _ rfl) (d _ _ rfl) (Ql.ag rfl) (QT l) rfl)⟩,(Qbx e rfl)⟩,(QT (QbJ e).2)⟩,(fun σ c d _=>Stp.nilCheckP rfl rfl (Qw hC.n rfl) (c _ _ rfl) o)⟩,(fun σ c d _=>Stp.fieldP rfl rfl (Qw hC.n rfl) (c _ _ rfl) (Ql.fo rfl rfl) rfl)⟩,(fun σ c d _=>Stp.loadP (b:=608) rfl rfl (Qw hC.n rfl) (c _ _ rfl) (d _ _ rfl) (Ql.ag rfl) (QT p) rfl)⟩,(cb_ f)⟩,(Qbx g rfl)⟩,(QT (QbJ g).2)⟩,(fun σ c d _=>Stp.nilCheckP rfl rfl (Qw hC.n rfl) (c _ _ rfl) v)⟩,(fun σ c d _=>Stp.fieldP rfl rfl (Qw hC.n rfl) (c _ _ rfl) (Ql.fo rfl rfl) rfl)⟩,(fun σ c d _=>Stp.loadP (b:=608) rfl rfl (Qw hC.n rfl) (c _ _ rfl) (d _ _ rfl) (Ql.ag rfl) (QT w) rfl)⟩,(Qbx i rfl)⟩,(QT (QbJ i).2)⟩,(fun σ c d _=>Stp.nilCheckP rfl rfl (Qw hC.n rfl) (c _ _ rfl) x)⟩,(fun σ c d _=>Stp.fieldP rfl rfl (Qw hC.n rfl) (c _ _ rfl) (Ql.fo rfl rfl) rfl)⟩,(fun σ c d _=>Stp.loadP (b:=608) rfl rfl (Qw hC.n rfl) (c _ _ rfl) (d _ _ rfl) (Ql.ag rfl) (QT y) rfl)⟩,(cb_ q)⟩ rfl (by kernel_rfl) rfl rfl rfl ?_
  refine tg_ hC [.K [6] [607,608]] rfl ?_
  cases h
  exact AK.met rfl
 rintro σ rfl
 replace h:Qcq Z=some r:=h
 refine tg_ hC [.n 2] rfl ?_
 cases h
 exact d1_ rfl rfl ⟨rfl,rfl,tt_⟩
def Qb2 (c:(List (Option Nat)))(a:Int)(d:Int)(i:(List Qf)):Option ((List (Option Nat))×(List Qf)):=
 (idx c d).bind fun h=>
 (idx c a).bind fun j=>
 (idx c a).bind fun n=>
 (idx (c.set a.toNat h) d).bind fun m=>
 (idx ((c.set a.toNat h).set d.toNat j) a).bind fun k=>
 (idx ((c.set a.toNat h).set d.toNat j) d).bind fun l=>
 (k).bind fun e=>
 (i[e]?).bind fun b=>
 (l).bind fun f=>
 ((i.set e (Qf.mk b.id b.at_ a))[f]?).bind fun g=>
 some (((c.set a.toNat h).set d.toNat j),((i.set e (Qf.mk b.id b.at_ a)).set f (Qf.mk g.id g.at_ d)))
theorem Qcs (gA:Nat→Nat)(o:(List (Option Nat)))(l:Int)(y:Int)(z:(List Qf)){r:((List (Option Nat))×(List Qf))}(h:Qb2 o l y z=some r):Qh prog 126 [.own 607 o.length,.I l,.I y] [(607,.arr 1 (o.map (Qz gA))),(608,.tbl gA 3 (z.map Qg))] (Qq (.tup []) [(607,.arr 1 (r.1.map (Qz gA))),(608,.tbl gA 3 (r.2.map Qg))]):=by
 refine Qh.walk 34 func126 rfl rfl rfl fun C hC=>?_
 obtain⟨A,p,h⟩:=Qe h
 obtain⟨F,q,h⟩:=Qe h
 obtain⟨G,s,h⟩:=Qe h
 obtain⟨B,f,h⟩:=Qe h
 refine tg_ hC [.n 1,.K [0,1,2] [607,608]] rfl ?_
 refine AK.draw2 Ql hC mixed [.N,.N,.a .no none true,.a .no none true,.N,.N,.N,.a (.row ((Qz gA) A)) none false,.N,.N,.N,.a (.row ((Qz gA) F)) none false,.N,.m (.st ((Qz gA) G) ((o.set l.toNat A).map (Qz gA))),.N,.m (.st ((Qz gA) B) (((o.set l.toNat A).set y.toNat F).map (Qz gA)))] [0,1,2] [608] [0,1,2] [607,608] rfl rfl rfl ⟨⟨⟨⟨⟨⟨⟨⟨tt_,(Qbx p rfl)⟩,(QT (QbJ p).2)⟩,(Qbx q rfl)⟩,(QT (QbJ q).2)⟩,(Qbx s rfl)⟩,⟨(QT (QbJ s).2),QiC rfl⟩⟩,(Qbx f (by simp))⟩,⟨(QT (QbJ f).2),QiC rfl⟩⟩ rfl (by kernel_rfl) rfl rfl rfl ?_
 obtain⟨D,g,h⟩:=Qe h
 obtain⟨E,i,h⟩:=Qe h
 obtain⟨d,t,h⟩:=Qe h
 obtain⟨e,u,h⟩:=Qe h
 obtain⟨j,v,h⟩:=Qe h
 obtain⟨w,x,h⟩:=Qe h
 refine tg_ hC [.n 1,.K [0,1,2] [607,608]] rfl ?_
 refine AK.draw2 Ql hC mixed [.N,.N,.N,.a (.row ((Qz gA) D)) none false,.N,.N,.N,.a (.row ((Qz gA) E)) none false,.N,.a .no none true,.a (.any (QaE gA 0 d) none) none false,.a (.any (QaE gA 2 d) none) none false,.m (.any ⟨[],[(608,.tbl gA 3 ((z.set d (Qf.mk e.id e.at_ l)).map Qg))],none⟩),.a (.any (QaE gA 0 j) none) none false,.a (.any (QaE gA 2 j) none) none false,.m (.any ⟨[],[(608,.tbl gA 3 (((z.set d (Qf.mk e.id e.at_ l)).set j (Qf.mk w.id w.at_ y)).map Qg))],none⟩)] [0,1,2] [607] [] [607,608] rfl rfl rfl ⟨⟨⟨⟨⟨⟨⟨⟨⟨⟨tt_,(Qbx g (by simp))⟩,(QT (QbJ g).2)⟩,(Qbx i (by simp))⟩,(QT (QbJ i).2)⟩,(fun σ c k _=>Stp.nilCheckP rfl rfl (Qw hC.n rfl) (c _ _ rfl) t)⟩,(fun σ c k _=>Stp.fieldP rfl rfl (Qw hC.n rfl) (c _ _ rfl) (Ql.fo rfl rfl) rfl)⟩,(fun σ c k=>Stp.storeP (b:=608) rfl rfl (c _ _ rfl) (k _ _ rfl) (QT u) rfl (c _ _ rfl) rfl rfl (Ql.sz rfl) (QiC rfl))⟩,(fun σ c k _=>Stp.nilCheckP rfl rfl (Qw hC.n rfl) (c _ _ rfl) v)⟩,(fun σ c k _=>Stp.fieldP rfl rfl (Qw hC.n rfl) (c _ _ rfl) (Ql.fo rfl rfl) rfl)⟩,(fun σ c k=>Stp.storeP (b:=608) rfl rfl (c _ _ rfl) (k _ _ rfl) (QT x) rfl (c _ _ rfl) rfl rfl (Ql.sz rfl) (QiC rfl))⟩ rfl (by kernel_rfl) rfl rfl rfl ?_
 refine tg_ hC [.K [] [607,608]] rfl ?_
 cases h
 refine AK.done ?_
 exact ex_ [] (an_ tt_ (QaQ ⟨rfl,rfl,tt_⟩))
def Qhg (a:Int)(b:(List (Option Nat)))(d:(List Qf)):Option Bool:=
 bif ((w64 (Int.tdiv (w64 (a-1)) 2))==a)then
 some true
 else
 (Qb1 b a (w64 (Int.tdiv (w64 (a-1)) 2)) d).bind fun c=>
 some (!c)
def QcJ (e:(List Qf))(a:(List (Option Nat)))(c:Int)(d:Bool):Option ((Int×(List Qf)×(List (Option Nat)))⊕((List Qf)×(List (Option Nat)))):=
 bif d then
 some (.inr (e,a))
 else
 (Qb2 a (w64 (Int.tdiv (w64 (c-1)) 2)) c e).bind fun b=>
 (chk (decide (b.1.length=a.length))).bind fun _=>
 some (.inl ((w64 (Int.tdiv (w64 (c-1)) 2)),b.2,b.1))
def Qec (c:Int)(d:(List Qf))(a:(List (Option Nat))):Option ((Int×(List Qf)×(List (Option Nat)))⊕((List Qf)×(List (Option Nat)))):=
 (Qhg c a d).bind (fun b=>QcJ d a c b)
def Qed (a:(List Qf))(b:(List (Option Nat))):Option ((List (Option Nat))×(List Qf)):=
 some (b,a)
def Qe3 (a:(List (Option Nat)))(d:(List (Int×(Option Nat))))(b:Int)(c:(List Qf)):Option ((List (Option Nat))×(List Qf)):=
 (QK (fun st=>Qec st.1 st.2.1 st.2.2) (b,c,a)).bind (fun q=>Qed q.1 q.2)
theorem Qhh (gA:Nat→Nat)(v:(List (Option Nat)))(j:(List (Int×(Option Nat))))(A:Int)(B:(List Qf)){r:((List (Option Nat))×(List Qf))}(h:Qe3 v j A B=some r):Qh prog 104 [.ifc 120 (.loc 607 0 0),.I A] [(607,.var [.own 605 v.length,.map 608]),(605,.arr 1 (v.map (Qz gA))),(608,.map (QE V.I (QI gA) j)),(609,.tbl gA 3 (B.map Qg))] (Qq (.tup []) [(605,.arr 1 (r.1.map (Qz gA))),(607,.var [.own 605 r.1.length,.map 608]),(608,.map (QE V.I (QI gA) j)),(609,.tbl gA 3 (r.2.map Qg))]):=by
 refine Qh.walk 23 func104 rfl rfl rfl fun C hC=>?_
 refine tg_ hC [.n 1,.K [0,1] [605,607,608,609]] rfl ?_
 obtain⟨w,k,h⟩:=Qe h
 refine AK.loop (body:=(fun st=>Qec st.1 st.2.1 st.2.2)) (fun st σ=>σ=⟨[(0,.ifc 120 (.loc 607 0 0)),(1,.I st.1)],[(605,.arr 1 (st.2.2.map (Qz gA))),(607,.var [.own 605 st.2.2.length,.map 608]),(608,.map (QE V.I (QI gA) j)),(609,.tbl gA 3 (st.2.1.map Qg))]⟩) (fun q e σ=>e=.exit 0∧σ=⟨[],[(605,.arr 1 (q.2.map (Qz gA))),(607,.var [.own 605 q.2.length,.map 608]),(608,.map (QE V.I (QI gA) j)),(609,.tbl gA 3 (q.1.map Qg))]⟩) k rfl ?_ ?_
 ·rintro ⟨t,u,a⟩ o σ rfl h
  refine Qa hC [.n 11] rfl ⟨tt_,(by decide)⟩ ?_
  obtain⟨g,l,h⟩:=Qe h
  replace h:QcJ u a t g=some o:=h
  refine AK.meetX (fun σ=>σ=⟨[(0,.ifc 120 (.loc 607 0 0)),(1,.I t),(4,.I (w64 (Int.tdiv (w64 (t-1)) 2))),(17,.b g)],[(605,.arr 1 (a.map (Qz gA))),(607,.var [.own 605 a.length,.map 608]),(608,.map (QE V.I (QI gA) j)),(609,.tbl gA 3 (u.map Qg))]⟩) ?_ ?_
  ·replace h:=l
   refine tg_ hC [.n 5] rfl ?_
   rcases QP h with⟨c,h⟩|⟨c,h⟩
   ·refine Qa hC [.S 11 (.b true),.n 7,.K [0,1,4,17] [605,607,608,609]] rfl (tc_ c) ?_
    cases h
    exact AK.met rfl
   obtain⟨x,m,h⟩:=Qe h
   refine Qa hC [.S 11 (.b false),.n 3,.cm (.mv 125 113) [(607,605),(608,609)] [(605,607),(609,608)] [] [.d,.d,.d] [(607,.arr 1 (a.map (Qz gA))),(608,.tbl gA 3 (u.map Qg))] (.b x),.n 3,.K [0,1,4,17] [605,607,608,609]] rfl ⟨⟨(tc_ c),Qhc⟩,(Qcr gA _ _ _ _ m)⟩ ?_
   cases h
   exact AK.met rfl
  rintro σ rfl
  replace h:QcJ u a t g=some o:=h
  refine tg_ hC [.n 1] rfl ?_
  rcases QP h with⟨f,h⟩|⟨f,h⟩
  ·refine Qa hC [.T,.n 3,.K [] [605,607,608,609]] rfl ⟨tt_,f⟩ ?_
   cases h
   exact Qbd rfl (an_ rfl rfl)
  obtain⟨i,p,h⟩:=Qe h
  obtain⟨s,h⟩:=QcD h
  refine Qa hC [.F,.n 7,.cm (.mv 126 113) [(607,605),(608,609)] [(605,607),(609,608)] [] [.d,.d,.d] [(607,.arr 1 (i.1.map (Qz gA))),(608,.tbl gA 3 (i.2.map Qg))] (.tup []),.O 607 (.var [.own 605 i.1.length,.map 608]),.n 7,.K [0,1] [605,607,608,609]] rfl ⟨⟨⟨⟨tt_,f⟩,Qhd⟩,(Qcs gA _ _ _ _ p)⟩,(by simp [QbO s])⟩ ?_
  cases h
  exact Qbl rfl rfl
 obtain⟨y,z⟩:=w
 replace h:Qed y z=some r:=h
 rintro e σ ⟨rfl,rfl⟩
 refine tg_ hC [.n 1,.K [] [605,607,608,609]] rfl ?_
 cases h
 refine AK.done ?_
 exact ex_ [] (an_ tt_ (QaQ ⟨rfl,rfl,rfl,rfl,tt_⟩))
def Qew (d:(List (Option Nat)))(b:(List (Int×(Option Nat))))(e:(Option Nat))(f:(List Qf)):Option ((List (Option Nat))×(List Qf)):=
 (QeQ d b e f).bind fun a=>
 (Qdx a.1 a.2).bind fun g=>
 (Qe3 a.1 b (w64 (g-1)) a.2).bind fun c=>
 some (c.1,c.2)
theorem Qgk (gA:Nat→Nat)(c:(List (Option Nat)))(a:(List (Int×(Option Nat))))(j:(Option Nat))(k:(List Qf)){r:((List (Option Nat))×(List Qf))}(h:Qew c a j k=some r):Qh prog 85 [.ifc 120 (.loc 607 0 0),.ifc 116 (QI gA j)] [(607,.var [.own 605 c.length,.map 608]),(605,.arr 1 (c.map (Qz gA))),(608,.map (QE V.I (QI gA) a)),(609,.tbl gA 3 (k.map Qg))] (Qq (.tup []) [(605,.arr 1 (r.1.map (Qz gA))),(607,.var [.own 605 r.1.length,.map 608]),(608,.map (QE V.I (QI gA) a)),(609,.tbl gA 3 (r.2.map Qg))]):=by
 refine Qh.walk 12 func85 rfl rfl rfl fun C hC=>?_
 obtain⟨b,e,h⟩:=Qe h
 obtain⟨l,f,h⟩:=Qe h
 obtain⟨g,i,h⟩:=Qe h
 refine Qa hC [.n 4,.cm (.me 128) [(607,607),(605,605),(608,608),(609,609)] [(605,605),(607,607),(608,608),(609,609)] [605] [.d,.d] [(605,.arr 1 (b.1.map (Qz gA))),(607,.var [.own 605 b.1.length,.map 608]),(608,.map (QE V.I (QI gA) a)),(609,.tbl gA 3 (b.2.map Qg))] (.tup []),.n 5,.cm (.mv 124 113) [(607,605),(608,609)] [(605,607),(609,608)] [] [.d] [(607,.arr 1 (b.1.map (Qz gA))),(608,.tbl gA 3 (b.2.map Qg))] (.I l),.n 1,.cm (.fn) [(607,607),(605,605),(608,608),(609,609)] [(605,605),(607,607),(608,608),(609,609)] [605] [.d,.d] [(605,.arr 1 (g.1.map (Qz gA))),(607,.var [.own 605 g.1.length,.map 608]),(608,.map (QE V.I (QI gA) a)),(609,.tbl gA 3 (g.2.map Qg))] (.tup []),.n 1,.K [] [605,607,608,609]] rfl ⟨⟨⟨⟨⟨tt_,QlL⟩,(Qgz gA _ _ _ _ e)⟩,QjS⟩,(Qeb gA _ _ f)⟩,(Qhh gA _ _ _ _ i)⟩ ?_
 cases h
 refine AK.done ?_
 exact ex_ [] (an_ tt_ (QaQ ⟨rfl,rfl,rfl,rfl,tt_⟩))
def QeR (d:(List (Option Nat)))(c:(List (Int×(Option Nat))))(a:Int)(at_4:Int)(b:(List Qf)):Option (Int×(List (Option Nat))×(List Qf)×(List (Int×(Option Nat)))):=
 bif ((QbS c a).getD none).isSome then
 some (5,d,b,c)
 else
 (Qd5 d c b).bind fun f=>
 bif (f==4096)then
 some (2,d,b,c)
 else
 (chk (d.all (okP b.length))).bind fun _=>
 (chk (c.all (fun q=>okP b.length q.2))).bind fun _=>
 (Qew d (Qeo ltI c a (some b.length)) (some b.length) (b++[(Qf.mk a at_4 0)])).bind fun e=>
 some (0,e.1,e.2,(Qeo ltI c a (some b.length)))
theorem QgB (gA:Nat→Nat)(s:(List (Option Nat)))(i:(List (Int×(Option Nat))))(a:Int)(at_4:Int)(j:(List Qf)){r:(Int×(List (Option Nat))×(List Qf)×(List (Int×(Option Nat))))}(h:QeR s i a at_4 j=some r):Qh prog 45 [.loc 607 0 0,.I a,.I at_4] [(607,.var [.own 605 s.length,.map 608]),(605,.arr 1 (s.map (Qz gA))),(608,.map (QE V.I (QI gA) i)),(606,.tbl gA 3 (j.map Qg))] (fun v hs=>∃gA:Nat→Nat,True∧Qq (.I r.1) [(605,.arr 1 (r.2.1.map (Qz gA))),(606,.tbl gA 3 (r.2.2.1.map Qg)),(607,.var [.own 605 r.2.1.length,.map 608]),(608,.map (QE V.I (QI gA) r.2.2.2))] v hs):=by
 refine Qh.walk 37 func45 rfl rfl rfl fun C hC=>?_
 refine Qa hC [.n 14,.o (.any (QI gA ((QbS i a).getD none)) none),.o (.any (.b ((QbS i a).getD none).isSome) none),.n 3] rfl ⟨⟨tt_,(fun σ t D _=>Stp.lookup (e:=V.I) (f:=(QI gA)) (l:=i) (k:=a) (z:=none) rfl rfl (Qw hC.n rfl) (t _ _ rfl) (D _ _ rfl) (t _ _ rfl) Qls Qlr QoN rfl)⟩,(fun σ t D _=>Stp.neqNilP rfl rfl (Qw hC.n rfl) (t _ _ rfl) (t _ _ rfl) QoM)⟩ ?_
 rcases QP h with⟨c,h⟩|⟨c,h⟩
 ·refine Qa hC [.T,.n 8,.K [6] [605,606,607,608]] rfl ⟨tt_,c⟩ ?_
  cases h
  exact AK.done (ex_ [_] (an_ (an_ rfl tt_) (ex_ _ (an_ tt_ (QaQ ⟨rfl,rfl,rfl,rfl,tt_⟩)))))
 obtain⟨B,u,h⟩:=Qe h
 refine Qa hC [.F,.n 3,.cm (.fn) [(607,607),(605,605),(608,608),(609,606)] [(605,605),(607,607),(608,608),(606,609)] [605] [.d] [(605,.arr 1 (s.map (Qz gA))),(607,.var [.own 605 s.length,.map 608]),(608,.map (QE V.I (QI gA) i)),(609,.tbl gA 3 (j.map Qg))] (.I B),.n 4] rfl ⟨⟨tt_,c⟩,(QeP gA _ _ _ u)⟩ ?_
 rcases QP h with⟨g,h⟩|⟨g,h⟩
 ·refine Qa hC [.T,.n 8,.K [6] [605,606,607,608]] rfl ⟨tt_,g⟩ ?_
  cases h
  exact AK.done (ex_ [_] (an_ (an_ rfl tt_) (ex_ _ (an_ tt_ (QaQ ⟨rfl,rfl,rfl,rfl,tt_⟩)))))
 obtain⟨w,h⟩:=QcD h
 obtain⟨y,h⟩:=QcD h
 refine Qa hC [.F,.n 7,.v .no [] (.agg (Qg (Qf.mk a at_4 0)))] rfl ⟨⟨tt_,g⟩,rfl⟩ ?_
 refine AK.boxP (b:=606) (n:=j.length) (rsN:=(j++[(Qf.mk a at_4 0)]).map Qg) rfl rfl rfl (Qw hC.n rfl) rfl rfl rfl rfl rfl rfl Qk (QcQ (m:=[(Qf.mk a at_4 0)])) fun gA p=>?_
 obtain⟨q,A,h⟩:=Qe h
 refine Qa hC [.O 605 (.arr 1 (s.map (Qz gA))),.O 608 (.map (QE V.I (QI gA) i)),.n 11,.x (fun σ=>σ.set 608 (.map (QE V.I (QI gA) (Qeo ltI i a (some j.length))))),.n 10,.cm (.fn) [(607,607),(605,605),(608,608),(609,606)] [(605,605),(607,607),(608,608),(606,609)] [605] [.d,.d] [(605,.arr 1 (q.1.map (Qz gA))),(607,.var [.own 605 q.1.length,.map 608]),(608,.map (QE V.I (QI gA) (Qeo ltI i a (some j.length)))),(609,.tbl gA 3 (q.2.map Qg))] (.tup []),.n 8,.K [6] [605,606,607,608]] rfl ⟨⟨⟨⟨tt_,(congrArg (Ob.arr 1) (Qoi p w))⟩,(congrArg Ob.map (Qoj p y))⟩,(Stp.mapUpdate (e:=V.I) (f:=(QI gA)) (l:=i) (k:=a) (v:=(some j.length)) ltI rfl rfl rfl rfl rfl rfl Qls Qlr rfl)⟩,(Qgk gA _ _ _ _ A)⟩ ?_
 cases h
 exact AK.done (ex_ [_] (an_ (an_ rfl tt_) (ex_ _ (an_ tt_ (QaQ ⟨rfl,rfl,rfl,rfl,tt_⟩)))))
def QdO (a:(List (Option Nat)))(j:(List (Int×(Option Nat))))(b:(List Qf)):Option (Int×Int×Bool):=
 (Qd5 a j b).bind fun c=>
 bif (c==0)then
 some (0,0,false)
 else
 (idx a 0).bind fun d=>
 (d).bind fun e=>
 (b[e]?).bind fun f=>
 (idx a 0).bind fun g=>
 (g).bind fun h=>
 (b[h]?).bind fun i=>
 some (f.id,i.at_,true)
theorem Qex (gA:Nat→Nat)(i:(List (Option Nat)))(v:(List (Int×(Option Nat))))(w:(List Qf)){r:(Int×Int×Bool)}(h:QdO i v w=some r):Qh prog 86 [.loc 607 0 0] [(607,.var [.own 605 i.length,.map 608]),(605,.arr 1 (i.map (Qz gA))),(608,.map (QE V.I (QI gA) v)),(609,.tbl gA 3 (w.map Qg))] (Qq (.tup [.I r.1,.I r.2.1,.b r.2.2]) [(605,.arr 1 (i.map (Qz gA))),(607,.var [.own 605 i.length,.map 608]),(608,.map (QE V.I (QI gA) v)),(609,.tbl gA 3 (w.map Qg))]):=by
 refine Qh.walk 26 func86 rfl rfl rfl fun C hC=>?_
 obtain⟨x,k,h⟩:=Qe h
 refine Qa hC [.n 11,.cm (.fn) [(607,607),(605,605),(608,608),(609,609)] [(605,605),(607,607),(608,608),(609,609)] [605] [.d] [(605,.arr 1 (i.map (Qz gA))),(607,.var [.own 605 i.length,.map 608]),(608,.map (QE V.I (QI gA) v)),(609,.tbl gA 3 (w.map Qg))] (.I x),.n 3] rfl ⟨tt_,(QeP gA _ _ _ k)⟩ ?_
 rcases QP h with⟨c,h⟩|⟨c,h⟩
 ·refine Qa hC [.T,.n 9,.K [2,3,4] [605,607,608,609]] rfl ⟨tt_,c⟩ ?_
  cases h
  exact AK.done (ex_ [_,_,_] (an_ (an_ rfl (an_ rfl (an_ rfl tt_))) (QaQ ⟨rfl,rfl,rfl,rfl,tt_⟩)))
 obtain⟨y,f,h⟩:=Qe h
 obtain⟨l,o,h⟩:=Qe h
 obtain⟨z,p,h⟩:=Qe h
 obtain⟨A,g,h⟩:=Qe h
 obtain⟨q,t,h⟩:=Qe h
 obtain⟨B,u,h⟩:=Qe h
 refine Qa hC [.F,.n 3,.K [0,2,3,4] [605,607,608,609]] rfl ⟨tt_,c⟩ ?_
 refine AK.draw2 Ql hC mixed [.N,.N,.N,.N,.N,.a (.row ((Qz gA) y)) none false,.a (.any (QaE gA 0 l) none) none false,.a (.any (QaE gA 0 l) none) none false,.a (.any (.I z.id) none) none false,.a .no none true,.a .no none true,.a .no none true,.a .no none true,.a .no none true,.a (.row ((Qz gA) A)) none true,.a (.any (QaE gA 0 q) none) none true,.a (.any (QaE gA 1 q) none) none true,.a (.any (.I B.at_) none) none true,.m .s,.m .s,.m .s] [0,4] [605,607,608,609] [2,3,4] [605,607,608,609] rfl rfl rfl ⟨⟨⟨⟨⟨⟨⟨⟨⟨⟨tt_,(Qbx f rfl)⟩,(QT (QbJ f).2)⟩,(fun σ e j _=>Stp.nilCheckP rfl rfl (Qw hC.n rfl) (e _ _ rfl) o)⟩,(fun σ e j _=>Stp.fieldP rfl rfl (Qw hC.n rfl) (e _ _ rfl) (Ql.fo rfl rfl) rfl)⟩,(fun σ e j _=>Stp.loadP (b:=609) rfl rfl (Qw hC.n rfl) (e _ _ rfl) (j _ _ rfl) (Ql.ag rfl) (QT p) rfl)⟩,(Qbx g rfl)⟩,(QT (QbJ g).2)⟩,(fun σ e j _=>Stp.nilCheckP rfl rfl (Qw hC.n rfl) (e _ _ rfl) t)⟩,(fun σ e j _=>Stp.fieldP rfl rfl (Qw hC.n rfl) (e _ _ rfl) (Ql.fo rfl rfl) rfl)⟩,(fun σ e j _=>Stp.loadP (b:=609) rfl rfl (Qw hC.n rfl) (e _ _ rfl) (j _ _ rfl) (Ql.ag rfl) (QT u) rfl)⟩ rfl (by kernel_rfl) rfl rfl rfl ?_
 refine tg_ hC [.n 2,.K [2,3,4] [605,607,608,609]] rfl ?_
 cases h
 exact AK.done (ex_ [_,_,_] (an_ (an_ rfl (an_ rfl (an_ rfl tt_))) (QaQ ⟨rfl,rfl,rfl,rfl,tt_⟩)))
def Qcj (a:(List (Option Nat)))(b:Int)(c:(List Qf))(d:Int):Option ((Int×(List Qf)×(List (Option Nat)))⊕(Int×(List Qf)×(List (Option Nat)))):=
 (Qb1 a d b c).bind fun f=>
 bif (!f)then
 some (.inr (b,c,a))
 else
 (Qb2 a b d c).bind fun e=>
 (chk (decide (e.1.length=a.length))).bind fun _=>
 some (.inl (d,e.2,e.1))
def Qgl (a:Int)(e:Int)(b:(List (Option Nat)))(c:(List Qf)):Option Bool:=
 bif (decide ((w64 ((w64 ((w64 (2*a))+1))+1))<e))then
 (Qb1 b (w64 ((w64 ((w64 (2*a))+1))+1)) (w64 ((w64 (2*a))+1)) c).bind fun d=>
 some d
 else
 some false
def Qck (b:(List (Option Nat)))(a:Int)(c:(List Qf))(d:Bool):Option ((Int×(List Qf)×(List (Option Nat)))⊕(Int×(List Qf)×(List (Option Nat)))):=
 bif d then
 Qcj b a c (w64 ((w64 ((w64 (2*a))+1))+1))
 else
 Qcj b a c (w64 ((w64 (2*a))+1))
def QdP (e:Int)(a:Int)(b:(List Qf))(c:(List (Option Nat))):Option ((Int×(List Qf)×(List (Option Nat)))⊕(Int×(List Qf)×(List (Option Nat)))):=
 bif ((decide (e≤(w64 ((w64 (2*a))+1))))||(decide ((w64 ((w64 (2*a))+1))<0)))then
 some (.inr (a,b,c))
 else
 (Qgl a e c b).bind (fun d=>Qck c a b d)
def QdQ (d:Int)(a:Int)(b:(List Qf))(c:(List (Option Nat))):Option (Bool×(List (Option Nat))×(List Qf)):=
 some ((decide (d<a)),c,b)
def Qey (b:(List (Option Nat)))(e:(List (Int×(Option Nat))))(a:Int)(c:Int)(d:(List Qf)):Option (Bool×(List (Option Nat))×(List Qf)):=
 (QK (fun st=>QdP c st.1 st.2.1 st.2.2) (a,d,b)).bind (fun q=>QdQ a q.1 q.2.1 q.2.2)
theorem Qgm (gA:Nat→Nat)(D:(List (Option Nat)))(p:(List (Int×(Option Nat))))(s:Int)(i:Int)(N:(List Qf)){r:(Bool×(List (Option Nat))×(List Qf))}(h:Qey D p s i N=some r):Qh prog 105 [.ifc 120 (.loc 607 0 0),.I s,.I i] [(607,.var [.own 605 D.length,.map 608]),(605,.arr 1 (D.map (Qz gA))),(608,.map (QE V.I (QI gA) p)),(609,.tbl gA 3 (N.map Qg))] (Qq (.b r.1) [(605,.arr 1 (r.2.1.map (Qz gA))),(607,.var [.own 605 r.2.1.length,.map 608]),(608,.map (QE V.I (QI gA) p)),(609,.tbl gA 3 (r.2.2.map Qg))]):=by
 refine Qh.walk 48 func105 rfl rfl rfl fun C hC=>?_
 refine tg_ hC [.n 13,.K [0,1,2,7] [605,607,608,609]] rfl ?_
 obtain⟨E,w,h⟩:=Qe h
 refine AK.loop (body:=(fun st=>QdP i st.1 st.2.1 st.2.2)) (fun st σ=>σ=⟨[(0,.ifc 120 (.loc 607 0 0)),(1,.I s),(2,.I i),(7,.I st.1)],[(605,.arr 1 (st.2.2.map (Qz gA))),(607,.var [.own 605 st.2.2.length,.map 608]),(608,.map (QE V.I (QI gA) p)),(609,.tbl gA 3 (st.2.1.map Qg))]⟩) (fun q e σ=>e=.exit 0∧σ=⟨[(1,.I s),(7,.I q.1)],[(605,.arr 1 (q.2.2.map (Qz gA))),(607,.var [.own 605 q.2.2.length,.map 608]),(608,.map (QE V.I (QI gA) p)),(609,.tbl gA 3 (q.2.1.map Qg))]⟩) w rfl ?_ ?_
 ·rintro ⟨a,f,c⟩ o σ rfl h
  refine tg_ hC [.n 11] rfl ?_
  refine AK.meetX (fun σ=>σ=⟨[(0,.ifc 120 (.loc 607 0 0)),(1,.I s),(2,.I i),(7,.I a),(8,.I (w64 ((w64 (2*a))+1))),(21,.b ((decide (i≤(w64 ((w64 (2*a))+1))))||(decide ((w64 ((w64 (2*a))+1))<0))))],[(605,.arr 1 (c.map (Qz gA))),(607,.var [.own 605 c.length,.map 608]),(608,.map (QE V.I (QI gA) p)),(609,.tbl gA 3 (f.map Qg))]⟩) ?_ ?_
  ·refine tg_ hC [.n 5] rfl ?_
   rcases Qcd (decide (i≤(w64 ((w64 (2*a))+1))))with g | g
   ·refine Qa hC [.S 18 (.b true),.n 4,.S 21 (.b ((decide (i≤(w64 ((w64 (2*a))+1))))||(decide ((w64 ((w64 (2*a))+1))<0)))),.K [0,1,2,7,8,21] [605,607,608,609]] rfl ⟨(tc_ g),(congrArg V.b (orT g rfl))⟩ ?_
    exact AK.met rfl
   refine Qa hC [.S 18 (.b false),.n 4,.S 21 (.b ((decide (i≤(w64 ((w64 (2*a))+1))))||(decide ((w64 ((w64 (2*a))+1))<0)))),.K [0,1,2,7,8,21] [605,607,608,609]] rfl ⟨(tc_ g),(congrArg V.b (orF g rfl))⟩ ?_
   exact AK.met rfl
  rintro σ rfl
  refine tg_ hC [.n 1] rfl ?_
  refine bg_ h (fun j h=>Qa hC [.T,.n 3,.K [1,7] [605,607,608,609]] rfl ⟨tt_,j⟩ ?_) fun j h=>Qa hC [.F,.n 8] rfl ⟨tt_,j⟩ ?_
  ·cases h
   exact Qbd rfl (an_ rfl rfl)
  refine AK.meet (fun σ=>∃t:Int,σ=⟨[(0,.ifc 120 (.loc 607 0 0)),(1,.I s),(2,.I i),(7,.I a),(9,.I t)],[(605,.arr 1 (c.map (Qz gA))),(607,.var [.own 605 c.length,.map 608]),(608,.map (QE V.I (QI gA) p)),(609,.tbl gA 3 (f.map Qg))]⟩∧Qcj c a f t=some o) ?_ ?_
  ·refine tg_ hC [.n 8] rfl ?_
   obtain⟨u,x,h⟩:=Qe h
   replace h:Qck c a f u=some o:=h
   refine AK.meetX (fun σ=>σ=⟨[(0,.ifc 120 (.loc 607 0 0)),(1,.I s),(2,.I i),(7,.I a),(9,.I (w64 ((w64 (2*a))+1))),(10,.I (w64 ((w64 ((w64 (2*a))+1))+1))),(33,.b u)],[(605,.arr 1 (c.map (Qz gA))),(607,.var [.own 605 c.length,.map 608]),(608,.map (QE V.I (QI gA) p)),(609,.tbl gA 3 (f.map Qg))]⟩) ?_ ?_
   ·replace h:=x
    refine tg_ hC [.n 5] rfl ?_
    rcases QP h with⟨k,h⟩|⟨k,h⟩
    ·obtain⟨G,y,h⟩:=Qe h
     refine Qa hC [.S 28 (.b true),.n 3,.cm (.mv 125 113) [(607,605),(608,609)] [(605,607),(609,608)] [] [.d,.d,.d] [(607,.arr 1 (c.map (Qz gA))),(608,.tbl gA 3 (f.map Qg))] (.b G),.n 2,.K [0,1,2,7,9,10,33] [605,607,608,609]] rfl ⟨⟨(tc_ k),Qhc⟩,(Qcr gA _ _ _ _ y)⟩ ?_
     cases h
     exact AK.met rfl
    refine Qa hC [.S 28 (.b false),.n 6,.K [0,1,2,7,9,10,33] [605,607,608,609]] rfl (tc_ k) ?_
    cases h
    exact AK.met rfl
   rintro σ rfl
   replace h:Qck c a f u=some o:=h
   refine tg_ hC [.n 1] rfl ?_
   refine bg_ h (fun l h=>Qa hC [.T,.n 4,.K [0,1,2,7,9] [605,607,608,609]] rfl ⟨tt_,l⟩ ?_) fun l h=>Qa hC [.F,.n 1,.K [0,1,2,7,9] [605,607,608,609]] rfl ⟨tt_,l⟩ ?_
   ·exact AK.met (ex_ _ (an_ rfl h))
   exact AK.met (ex_ _ (an_ rfl h))
  rintro σ ⟨t,rfl,h⟩
  obtain⟨H,z,h⟩:=Qe h
  refine Qa hC [.n 6,.cm (.mv 125 113) [(607,605),(608,609)] [(605,607),(609,608)] [] [.d,.d,.d] [(607,.arr 1 (c.map (Qz gA))),(608,.tbl gA 3 (f.map Qg))] (.b H),.n 3] rfl ⟨⟨tt_,Qhc⟩,(Qcr gA _ _ _ _ z)⟩ ?_
  rcases QP h with⟨m,h⟩|⟨m,h⟩
  ·refine Qa hC [.T,.n 3,.K [1,7] [605,607,608,609]] rfl ⟨tt_,m⟩ ?_
   cases h
   exact Qbd rfl (an_ rfl rfl)
  obtain⟨v,A,h⟩:=Qe h
  obtain⟨B,h⟩:=QcD h
  refine Qa hC [.F,.n 7,.cm (.mv 126 113) [(607,605),(608,609)] [(605,607),(609,608)] [] [.d,.d,.d] [(607,.arr 1 (v.1.map (Qz gA))),(608,.tbl gA 3 (v.2.map Qg))] (.tup []),.O 607 (.var [.own 605 v.1.length,.map 608]),.n 7,.K [0,1,2,7] [605,607,608,609]] rfl ⟨⟨⟨⟨tt_,m⟩,Qhd⟩,(Qcs gA _ _ _ _ A)⟩,(by simp [QbO B])⟩ ?_
  cases h
  exact Qbl rfl rfl
 obtain⟨J,L,M⟩:=E
 replace h:QdQ s J L M=some r:=h
 rintro e σ ⟨rfl,rfl⟩
 refine tg_ hC [.n 11] rfl ?_
 cases h
 exact d1_ rfl rfl ⟨rfl,rfl,rfl,rfl,tt_⟩
def Qe4 (a:(List (Option Nat)))(c:(List (Int×(Option Nat))))(d:(List Qf)):Option ((Option Nat)×(List (Option Nat))):=
 (idx a (w64 ((a.length:Int)-1))).bind fun b=>
 (chk (decide (0≤(w64 ((a.length:Int)-1)))&&decide ((w64 ((a.length:Int)-1)).toNat≤a.length))).bind fun _=>
 some (b,(a.take (w64 ((a.length:Int)-1)).toNat))
theorem Qhi (gA:Nat→Nat)(b:(List (Option Nat)))(e:(List (Int×(Option Nat))))(f:(List Qf)){r:((Option Nat)×(List (Option Nat)))}(h:Qe4 b e f=some r):Qh prog 127 [.loc 607 0 0] [(607,.var [.own 605 b.length,.map 608]),(605,.arr 1 (b.map (Qz gA))),(608,.map (QE V.I (QI gA) e)),(609,.tbl gA 3 (f.map Qg))] (Qq (.ifc 116 (QI gA r.1)) [(605,.arr 1 (r.2.map (Qz gA))),(607,.var [.own 605 r.2.length,.map 608]),(608,.map (QE V.I (QI gA) e)),(609,.tbl gA 3 (f.map Qg))]):=by
 refine Qh.walk 27 func127 rfl rfl rfl fun C hC=>?_
 obtain⟨j,d,h⟩:=Qe h
 refine tg_ hC [.n 6,.K [0] [605,607,608,609]] rfl ?_
 refine AK.draw2 Ql hC mixed [.N,.N,.N,.N,.N,.N,.N,.N,.N,.a (.row ((Qz gA) j)) none false,.N] [] [] [0,3] [605,607,608,609] rfl rfl rfl ⟨⟨tt_,(Qbx d rfl)⟩,(QT (QbJ d).2)⟩ rfl (by kernel_rfl) rfl rfl rfl ?_
 obtain⟨c,h⟩:=QcD h
 refine tg_ hC [.n 2,.K [0,3] [605,607,608,609]] rfl ?_
 have g:(w64 ((b.length:Int)-1)).toNat=(b.take (w64 ((b.length:Int)-1)).toNat).length:=by rw [QgE,Nat.min_eq_left (QbO (QjK c))]
 refine AK.draw2 Ql hC mixed [.a .no none true,.N,.N,.N,.N,.N,.N,.N,.N,.m (.any ⟨[],[(605,.arr 1 ((b.take (w64 ((b.length:Int)-1)).toNat).map (Qz gA)))],some (23,.own 605 (w64 ((b.length:Int)-1)).toNat)⟩),.N,.m .s] [0,3] [607,608,609] [3] [605,607,608,609] rfl rfl rfl ⟨tt_,(fun σ i k=>Stp.sliceO rfl rfl (Qw hC.n rfl) (i _ _ rfl) (k _ _ rfl) (Ql.es rfl) Bnd.no (Bnd.val (i _ _ rfl) (QbO (QjJ c)) rfl) (QbO (QjK c)) (by simp))⟩ rfl (by kernel_rfl) rfl rfl rfl ?_
 refine Qa hC [.O 607 (.var [.own 605 (w64 ((b.length:Int)-1)).toNat,.map 608]),.n 9,.O 607 (.var [.own 605 (b.take (w64 ((b.length:Int)-1)).toNat).length,.map 608])] rfl ⟨⟨tt_,rfl⟩,(congrArg (fun n=>Ob.var [.own 605 n,.map 608]) (by rw [←g]))⟩ ?_
 cases h
 exact d1_ rfl rfl ⟨rfl,rfl,rfl,rfl,tt_⟩
def QeS (c:(List (Option Nat)))(e:(List (Int×(Option Nat))))(f:(List Qf)):Option ((Option Nat)×(List (Option Nat))×(List Qf)):=
 (Qdx c f).bind fun g=>
 (Qb2 c 0 (w64 (g-1)) f).bind fun d=>
 (chk (decide (d.1.length=c.length))).bind fun _=>
 (Qey d.1 e 0 (w64 (g-1)) d.2).bind fun a=>
 (Qe4 a.2.1 e a.2.2).bind fun b=>
 some (b.1,b.2,a.2.2)
theorem QgC (gA:Nat→Nat)(i:(List (Option Nat)))(e:(List (Int×(Option Nat))))(j:(List Qf)){r:((Option Nat)×(List (Option Nat))×(List Qf))}(h:QeS i e j=some r):Qh prog 87 [.ifc 120 (.loc 607 0 0)] [(607,.var [.own 605 i.length,.map 608]),(605,.arr 1 (i.map (Qz gA))),(608,.map (QE V.I (QI gA) e)),(609,.tbl gA 3 (j.map Qg))] (Qq (.ifc 116 (QI gA r.1)) [(605,.arr 1 (r.2.1.map (Qz gA))),(607,.var [.own 605 r.2.1.length,.map 608]),(608,.map (QE V.I (QI gA) e)),(609,.tbl gA 3 (r.2.2.map Qg))]):=by
 refine Qh.walk 15 func87 rfl rfl rfl fun C hC=>?_
 obtain⟨p,k,h⟩:=Qe h
 obtain⟨l,m,h⟩:=Qe h
 obtain⟨o,h⟩:=QcD h
 obtain⟨a,f,h⟩:=Qe h
 obtain⟨c,g,h⟩:=Qe h
 refine Qa hC [.n 8,.cm (.mv 124 113) [(607,605),(608,609)] [(605,607),(609,608)] [] [.d] [(607,.arr 1 (i.map (Qz gA))),(608,.tbl gA 3 (j.map Qg))] (.I p),.n 8,.cm (.mv 126 113) [(607,605),(608,609)] [(605,607),(609,608)] [] [.d,.d,.d] [(607,.arr 1 (l.1.map (Qz gA))),(608,.tbl gA 3 (l.2.map Qg))] (.tup []),.O 607 (.var [.own 605 l.1.length,.map 608]),.n 6,.cm (.fn) [(607,607),(605,605),(608,608),(609,609)] [(605,605),(607,607),(608,608),(609,609)] [605] [.d,.d,.d] [(605,.arr 1 (a.2.1.map (Qz gA))),(607,.var [.own 605 a.2.1.length,.map 608]),(608,.map (QE V.I (QI gA) e)),(609,.tbl gA 3 (a.2.2.map Qg))] (.b a.1),.n 5,.cm (.me 127) [(607,607),(605,605),(608,608),(609,609)] [(605,605),(607,607),(608,608),(609,609)] [605] [.d] [(605,.arr 1 (c.2.map (Qz gA))),(607,.var [.own 605 c.2.length,.map 608]),(608,.map (QE V.I (QI gA) e)),(609,.tbl gA 3 (a.2.2.map Qg))] (.ifc 116 (QI gA c.1)),.n 4] rfl ⟨⟨⟨⟨⟨⟨⟨⟨tt_,QjS⟩,(Qeb gA _ _ k)⟩,Qhd⟩,(Qcs gA _ _ _ _ m)⟩,(by simp [QbO o])⟩,(Qgm gA _ _ _ _ _ f)⟩,Qmy⟩,(Qhi gA _ _ _ g)⟩ ?_
 cases h
 exact d1_ rfl rfl ⟨rfl,rfl,rfl,rfl,tt_⟩
def QeT (f:Int)(a:Int)(at_14:Int)(g:Bool)(d:(List Int))(b:(List (Int×(Option Nat))))(h:(List Qf))(i:(List (Option Nat))):Option ((Int×Int×Bool×(List Int)×(List (Int×(Option Nat)))×(List Qf)×(List (Option Nat)))⊕((List Int)×(List (Int×(Option Nat)))×(List Qf)×(List (Option Nat)))):=
 bif (g&&(decide (at_14≤f)))then
 (chk (decide (d.length+([a]:List Int).length≤4294967296))).bind fun _=>
 (QeS i b h).bind fun c=>
 (QdO c.2.1 (Qd3 b a) c.2.2).bind fun e=>
 some (.inl (e.1,e.2.1,e.2.2,(d++([a]:List Int)),(Qd3 b a),c.2.2,c.2.1))
 else
 some (.inr (d,b,h,i))
def QeU (a:(List Int))(b:(List (Int×(Option Nat))))(c:(List Qf))(d:(List (Option Nat))):Option ((List Int)×(List (Option Nat))×(List (Int×(Option Nat)))×(List Qf)):=
 some (a,d,b,c)
def QfM (c:(List (Option Nat)))(d:(List (Int×(Option Nat))))(a:Int)(e:(List Qf)):Option ((List Int)×(List (Option Nat))×(List (Int×(Option Nat)))×(List Qf)):=
 (QdO c d e).bind fun b=>
 (QK (fun st=>QeT a st.1 st.2.1 st.2.2.1 st.2.2.2.1 st.2.2.2.2.1 st.2.2.2.2.2.1 st.2.2.2.2.2.2) (b.1,b.2.1,b.2.2,([]:List Int),d,e,c)).bind (fun q=>QeU q.1 q.2.1 q.2.2.1 q.2.2.2)
theorem Qid (gA:Nat→Nat)(u:(List (Option Nat)))(D:(List (Int×(Option Nat))))(a:Int)(E:(List Qf)){r:((List Int)×(List (Option Nat))×(List (Int×(Option Nat)))×(List Qf))}(h:QfM u D a E=some r):Qh prog 46 [.loc 607 0 0,.I a] [(607,.var [.own 605 u.length,.map 608]),(605,.arr 1 (u.map (Qz gA))),(608,.map (QE V.I (QI gA) D)),(609,.tbl gA 3 (E.map Qg))] (Qq (.own 600 r.1.length) [(600,.arr 1 (r.1.map Qp)),(605,.arr 1 (r.2.1.map (Qz gA))),(607,.var [.own 605 r.2.1.length,.map 608]),(608,.map (QE V.I (QI gA) r.2.2.1)),(609,.tbl gA 3 (r.2.2.2.map Qg))]):=by
 refine Qh.walk 42 func46 rfl rfl rfl fun C hC=>?_
 obtain⟨G,H,h⟩:=Qe h
 refine Qa hC [.n 14,.cm (.fn) [(607,607),(605,605),(608,608),(609,609)] [(605,605),(607,607),(608,608),(609,609)] [605] [.d] [(605,.arr 1 (u.map (Qz gA))),(607,.var [.own 605 u.length,.map 608]),(608,.map (QE V.I (QI gA) D)),(609,.tbl gA 3 (E.map Qg))] (.tup [.I G.1,.I G.2.1,.b G.2.2]),.n 10,.adopt 5 27 1,.O 27 (.arr 1 (([]:List Int).map Qp)),.S 5 (.own 27 ([]:List Int).length),.K [0,1,5,6,7,8] [27,605,607,608,609]] rfl ⟨⟨⟨tt_,(Qex gA _ _ _ H)⟩,rfl⟩,(congrArg (fun n=>V.own 27 n) (by simp))⟩ ?_
 obtain⟨J,w,h⟩:=Qe h
 refine AK.loop (body:=(fun st=>QeT a st.1 st.2.1 st.2.2.1 st.2.2.2.1 st.2.2.2.2.1 st.2.2.2.2.2.1 st.2.2.2.2.2.2)) (fun st σ=>σ=⟨[(0,.loc 607 0 0),(1,.I a),(5,.own 27 st.2.2.2.1.length),(6,.I st.1),(7,.I st.2.1),(8,.b st.2.2.1)],[(27,.arr 1 (st.2.2.2.1.map Qp)),(605,.arr 1 (st.2.2.2.2.2.2.map (Qz gA))),(607,.var [.own 605 st.2.2.2.2.2.2.length,.map 608]),(608,.map (QE V.I (QI gA) st.2.2.2.2.1)),(609,.tbl gA 3 (st.2.2.2.2.2.1.map Qg))]⟩) (fun q e σ=>e=.exit 0∧σ=⟨[(5,.own 27 q.1.length)],[(27,.arr 1 (q.1.map Qp)),(605,.arr 1 (q.2.2.2.map (Qz gA))),(607,.var [.own 605 q.2.2.2.length,.map 608]),(608,.map (QE V.I (QI gA) q.2.1)),(609,.tbl gA 3 (q.2.2.1.map Qg))]⟩) w rfl ?_ ?_
 ·rintro ⟨c,at_14,j,s,m,L,y⟩ o σ rfl h
  refine tg_ hC [.n 2] rfl ?_
  refine AK.meetX (fun σ=>σ=⟨[(0,.loc 607 0 0),(1,.I a),(5,.own 27 s.length),(6,.I c),(20,.b (j&&(decide (at_14≤a))))],[(27,.arr 1 (s.map Qp)),(605,.arr 1 (y.map (Qz gA))),(607,.var [.own 605 y.length,.map 608]),(608,.map (QE V.I (QI gA) m)),(609,.tbl gA 3 (L.map Qg))]⟩) ?_ ?_
  ·refine tg_ hC [.n 3] rfl ?_
   rcases Qcd j with g | g
   ·refine Qa hC [.S 16 (.b true),.n 5,.S 20 (.b (j&&(decide (at_14≤a)))),.K [0,1,5,6,20] [27,605,607,608,609]] rfl ⟨(tc_ g),(congrArg V.b (QhP g rfl))⟩ ?_
    exact AK.met rfl
   refine Qa hC [.S 16 (.b false),.n 5,.S 20 (.b (j&&(decide (at_14≤a)))),.K [0,1,5,6,20] [27,605,607,608,609]] rfl ⟨(tc_ g),(congrArg V.b (QhQ g rfl))⟩ ?_
   exact AK.met rfl
  rintro σ rfl
  refine tg_ hC [.n 1] rfl ?_
  rcases QP h with⟨p,h⟩|⟨p,h⟩
  ·obtain⟨z,h⟩:=QcD h
   obtain⟨i,A,h⟩:=Qe h
   obtain⟨t,B,h⟩:=Qe h
   refine Qa hC [.T,.n 8,.v (.bd []) [] (.sl 1 (([c]:List Int).map Qp)),.app ((s++([c]:List Int)).map Qp) (s++([c]:List Int)).length,.n 9,.cm (.fn) [(607,607),(605,605),(608,608),(609,609)] [(605,605),(607,607),(608,608),(609,609)] [605] [.d] [(605,.arr 1 (i.2.1.map (Qz gA))),(607,.var [.own 605 i.2.1.length,.map 608]),(608,.map (QE V.I (QI gA) m)),(609,.tbl gA 3 (i.2.2.map Qg))] (.ifc 116 (QI gA i.1)),.n 8,.x (fun σ=>σ.set 608 (.map (QE V.I (QI gA) (Qd3 m c)))),.n 5,.cm (.fn) [(607,607),(605,605),(608,608),(609,609)] [(605,605),(607,607),(608,608),(609,609)] [605] [.d] [(605,.arr 1 (i.2.1.map (Qz gA))),(607,.var [.own 605 i.2.1.length,.map 608]),(608,.map (QE V.I (QI gA) (Qd3 m c))),(609,.tbl gA 3 (i.2.2.map Qg))] (.tup [.I t.1,.I t.2.1,.b t.2.2]),.n 8,.K [0,1,5,6,7,8] [27,605,607,608,609]] rfl ⟨⟨⟨⟨⟨⟨tt_,p⟩,rfl⟩,⟨Qk,Qd7 z Qk,QcQ,Qfn Qk⟩⟩,(QgC gA _ _ _ A)⟩,(Stp.delete (e:=V.I) (f:=(QI gA)) (l:=m) (k:=c) rfl rfl rfl rfl rfl Qls Qlr)⟩,(Qex gA _ _ _ B)⟩ ?_
   cases h
   exact Qbl rfl rfl
  refine Qa hC [.F,.n 2,.K [5] [27,605,607,608,609]] rfl ⟨tt_,p⟩ ?_
  cases h
  exact Qbd rfl (an_ rfl rfl)
 obtain⟨M,N,P,U⟩:=J
 replace h:QeU M N P U=some r:=h
 rintro e σ ⟨rfl,rfl⟩
 refine tg_ hC [.n 9,.K [4] [27,605,607,608,609],.ren 27 600] rfl ?_
 cases h
 exact d1_ rfl rfl ⟨rfl,rfl,rfl,rfl,rfl,tt_⟩
def Qfb (e:Int)(f:(List (Int×Bool)))(a:Qj)(b:(List (Option Nat)))(c:(List (Int×(Option Nat))))(d:(List Qf)):Option ((Int×(List (Int×Bool))×(List (Option Nat))×(List (Int×(Option Nat)))×(List Qf))⊕((List (Option Nat))×(List (Int×(Option Nat)))×(List Qf))):=
 some (.inl ((w64 (e+1)),(Qeo ltI f a.Id true),b,c,d))
def Qhv (h:(List Qj))(d:Int)(e:(List (Int×Bool)))(f:(List (Option Nat)))(g:(List (Int×(Option Nat))))(b:(List Qf)):Option ((Int×(List (Int×Bool))×(List (Option Nat))×(List (Int×(Option Nat)))×(List Qf))⊕((List (Option Nat))×(List (Int×(Option Nat)))×(List Qf))):=
 bif (decide (d<(h.length:Int)))then
 (idx h d).bind fun a=>
 bif ((!((QbS e a.Id).getD false))&&(decide (0<a.Until)))then
 (QeR f g a.Id a.Until b).bind fun c=>
 Qfb d e a c.2.1 c.2.2.2 c.2.2.1
 else
 Qfb d e a f g b
 else
 some (.inr (f,g,b))
def Qhw (a:Int)(b:(List (Option Nat)))(c:(List (Int×(Option Nat))))(d:(List Qf)):Option (List Int):=
 (QfM b c a d).bind fun e=>
 some e.1
def Qji (c:(List Qj))(a:Int):Option (List Int):=
 (Qjh).bind fun b=>
 (QK (fun st=>Qhv c st.1 st.2.1 st.2.2.1 st.2.2.2.1 st.2.2.2.2) (0,([]:(List (Int×Bool))),([]:List (Option Nat)),b.1,b.2)).bind (fun q=>Qhw a q.1 q.2.1 q.2.2)
theorem Qkk (gA:Nat→Nat)(t:(List Qj))(c:Int){r:(List Int)}(h:Qji t c=some r):Qh prog 19 [.sl 11 (t.map Qd),.I c] [] (Qq (.own 600 r.length) [(600,.arr 1 (r.map Qp))]):=by
 refine Qh.walk 40 func19 rfl rfl rfl fun C hC=>?_
 obtain⟨U,G,h⟩:=Qe h
 refine Qa hC [.n 7,.cm (.fn) [] [(9,1),(602,3),(603,601)] [] [] [(1,.map (QE V.I (QI gA) U.1)),(3,.var [.lit (.slice none 0 0),.map 1]),(601,.tbl gA 3 (U.2.map Qg))] (.loc 3 0 0),.n 6,.O 10 (.map (QE V.I V.b ([]:(List (Int×Bool))))),.n 7,.o (.ln t.length),.n 4,.adoptO 602 0 604 1,.O 604 (.arr 1 (([]:List (Option Nat)).map (Qz gA))),.O 602 (.var [.own 604 ([]:List (Option Nat)).length,.map 9]),.K [1,5,6,11,12,13] [9,10,602,603,604]] rfl ⟨⟨⟨⟨⟨tt_,(Qkj gA  G)⟩,rfl⟩,Qk⟩,rfl⟩,(congrArg (fun n=>Ob.var [.own 604 n,.map 9]) (by simp))⟩ ?_
 obtain⟨H,A,h⟩:=Qe h
 refine AK.loop (body:=(fun st=>Qhv t st.1 st.2.1 st.2.2.1 st.2.2.2.1 st.2.2.2.2)) (fun st σ=>∃gA:Nat→Nat,σ=⟨[(1,.I c),(5,.loc 602 0 0),(6,.map 10),(11,.sl 11 (t.map Qd)),(12,.I (t.length:Int)),(13,.I st.1)],[(9,.map (QE V.I (QI gA) st.2.2.2.1)),(10,.map (QE V.I V.b st.2.1)),(602,.var [.own 604 st.2.2.1.length,.map 9]),(603,.tbl gA 3 (st.2.2.2.2.map Qg)),(604,.arr 1 (st.2.2.1.map (Qz gA)))]⟩) (fun q e σ=>e=.exit 0∧∃gA:Nat→Nat,σ=⟨[(1,.I c),(5,.loc 602 0 0)],[(9,.map (QE V.I (QI gA) q.2.1)),(602,.var [.own 604 q.1.length,.map 9]),(603,.tbl gA 3 (q.2.2.map Qg)),(604,.arr 1 (q.1.map (Qz gA)))]⟩) A (ex_ _ rfl) ?_ ?_
 ·rintro ⟨J,j,W,Y,L⟩ o σ ⟨gA,rfl⟩ h
  refine tg_ hC [.n 6] rfl ?_
  rcases QP h with⟨m,h⟩|⟨m,h⟩
  ·obtain⟨a,B,h⟩:=Qe h
   refine Qa hC [.T,.n 6,.o (.row (Qd a)),.v .no [] (.agg (Qd a)),.n 2,.O 8 (.var (Qd a)),.n 2] rfl ⟨⟨⟨⟨tt_,m⟩,(Qbs B)⟩,rfl⟩,rfl⟩ ?_
   refine AK.meet (fun σ=>∃gA:Nat→Nat,∃u:(List (Option Nat)),∃w:(List (Int×(Option Nat))),∃y:(List Qf),σ=⟨[(1,.I c),(5,.loc 602 0 0),(6,.map 10),(8,.loc 8 0 0),(11,.sl 11 (t.map Qd)),(12,.I (t.length:Int)),(13,.I J)],[(8,.var (Qd a)),(9,.map (QE V.I (QI gA) w)),(10,.map (QE V.I V.b j)),(602,.var [.own 604 u.length,.map 9]),(603,.tbl gA 3 (y.map Qg)),(604,.arr 1 (u.map (Qz gA)))]⟩∧Qfb J j a u w y=some o) ?_ ?_
   ·refine tg_ hC [.n 1] rfl ?_
    refine AK.meetX (fun σ=>σ=⟨[(1,.I c),(5,.loc 602 0 0),(6,.map 10),(8,.loc 8 0 0),(11,.sl 11 (t.map Qd)),(12,.I (t.length:Int)),(13,.I J),(26,.b ((!((QbS j a.Id).getD false))&&(decide (0<a.Until))))],[(8,.var (Qd a)),(9,.map (QE V.I (QI gA) Y)),(10,.map (QE V.I V.b j)),(602,.var [.own 604 W.length,.map 9]),(603,.tbl gA 3 (L.map Qg)),(604,.arr 1 (W.map (Qz gA)))]⟩) ?_ ?_
    ·refine Qa hC [.n 4,.o (.any (.b ((QbS j a.Id).getD false)) none),.n 2] rfl ⟨tt_,(fun σ X Z _=>Stp.lookup (e:=V.I) (f:=V.b) (l:=j) (k:=a.Id) (z:=false) rfl rfl (Qw hC.n rfl) (X _ _ rfl) (Z _ _ rfl) (X _ _ rfl) Qn7 Qlr QpF rfl)⟩ ?_
     rcases Qcd (!((QbS j a.Id).getD false))with g | g
     ·refine Qa hC [.S 22 (.b true),.n 5,.S 26 (.b ((!((QbS j a.Id).getD false))&&(decide (0<a.Until)))),.K [1,5,6,8,11,12,13,26] [8,9,10,602,603,604]] rfl ⟨(tc_ g),(congrArg V.b (QhP g rfl))⟩ ?_
      exact AK.met rfl
     refine Qa hC [.S 22 (.b false),.n 5,.S 26 (.b ((!((QbS j a.Id).getD false))&&(decide (0<a.Until)))),.K [1,5,6,8,11,12,13,26] [8,9,10,602,603,604]] rfl ⟨(tc_ g),(congrArg V.b (QhQ g rfl))⟩ ?_
     exact AK.met rfl
    rintro σ rfl
    refine tg_ hC [.n 1] rfl ?_
    rcases QP h with⟨p,h⟩|⟨p,h⟩
    ·obtain⟨s,D,h⟩:=Qe h
     refine Qa hC [.T,.n 6] rfl ⟨tt_,p⟩ ?_
     refine AK.callE (ι:=Nat→Nat) (Φ:=fun _=>True) [(607,602),(605,604),(608,9),(606,603)] [(604,605),(603,606),(602,607),(9,608)] [604,603] [.d,.d,.d] (fun gA=>[(605,.arr 1 (s.2.1.map (Qz gA))),(606,.tbl gA 3 (s.2.2.1.map Qg)),(607,.var [.own 605 s.2.1.length,.map 608]),(608,.map (QE V.I (QI gA) s.2.2.2))]) (fun gA=>.I s.1) (fun gA=>_) rfl hC (QaA.fn rfl (by kernel_rfl) rfl) rfl (Qw hC.n rfl) rfl rfl (QgB gA _ _ _ _ _ D) (fun gA=>ex_ _ rfl) fun gA _=>?_
     refine tg_ hC [.n 1,.K [1,5,6,8,11,12,13] [8,9,10,602,603,604]] rfl ?_
     exact AK.met (ex_ _ (ex_ _ (ex_ _ (ex_ _ (an_ rfl h)))))
    refine Qa hC [.F,.n 1,.K [1,5,6,8,11,12,13] [8,9,10,602,603,604]] rfl ⟨tt_,p⟩ ?_
    exact AK.met (ex_ _ (ex_ _ (ex_ _ (ex_ _ (an_ rfl h)))))
   rintro σ ⟨gA,u,w,y,rfl,h⟩
   refine Qa hC [.n 4,.x (fun σ=>σ.set 10 (.map (QE V.I V.b (Qeo ltI j a.Id true)))),.n 7,.K [1,5,6,11,12,13] [9,10,602,603,604]] rfl ⟨tt_,(Stp.mapUpdate (e:=V.I) (f:=V.b) (l:=j) (k:=a.Id) (v:=true) ltI rfl rfl rfl rfl rfl rfl Qn7 Qlr rfl)⟩ ?_
   cases h
   exact Qbl rfl (ex_ _ rfl)
  refine Qa hC [.F,.n 2,.K [1,5] [9,602,603,604]] rfl ⟨tt_,m⟩ ?_
  cases h
  exact Qbd rfl (an_ rfl (ex_ _ rfl))
 obtain⟨M,N,P⟩:=H
 replace h:Qhw c M N P=some r:=h
 rintro e σ ⟨rfl,gA,rfl⟩
 obtain⟨i,E,h⟩:=Qe h
 refine Qa hC [.n 6,.cm (.fn) [(607,602),(605,604),(608,9),(609,603)] [(39,600),(604,605),(602,607),(9,608),(603,609)] [604] [.d,.d] [(600,.arr 1 (i.1.map Qp)),(605,.arr 1 (i.2.1.map (Qz gA))),(607,.var [.own 605 i.2.1.length,.map 608]),(608,.map (QE V.I (QI gA) i.2.2.1)),(609,.tbl gA 3 (i.2.2.2.map Qg))] (.own 600 i.1.length),.n 4,.K [4] [39],.ren 39 600] rfl ⟨tt_,(Qid gA _ _ _ _ E)⟩ ?_
 cases h
 exact d1_ rfl rfl ⟨rfl,tt_⟩
def QgS (c:(List Int))(d:(List Int))(a:Int):Option (Int⊕(Unit⊕Unit)):=
 bif (decide (a<(c.length:Int)))then
 (idx c a).bind fun e=>
 (idx d a).bind fun b=>
 bif (e != b)then
 some (.inr (.inl ()))
 else
 some (.inl (w64 (a+1)))
 else
 some (.inr (.inr ()))
def QgT : Option Bool:=
 some false
def QgU : Option Bool:=
 some true
def QiS (a:(List Int))(b:(List Int)):Option Bool:=
 bif ((a.length:Int) != (b.length:Int))then
 some false
 else
 (QK (fun st=>QgS a b st) 0).bind (Sum.elim (fun q=>QgT) (fun q=>QgU))
theorem QjU (g i){r}(h:QiS g i=some r):Qh prog 18 [.sl 1 (g.map Qp),.sl 1 (i.map Qp)] [] (Qq (.b r) []):=by
 refine Qh.walk 26 func18 rfl rfl rfl fun C hC=>?_
 refine Qa hC [.n 9,.o (.ln g.length),.n 1,.o (.ln i.length),.n 3] rfl ⟨⟨tt_,Qk⟩,Qk⟩ ?_
 refine bg_ h (fun d h=>Qa hC [.T,.n 7,.K [4] []] rfl ⟨tt_,d⟩ ?_) fun d h=>Qa hC [.F,.n 9,.K [0,1,5] []] rfl ⟨tt_,d⟩ ?_
 ·cases h
  exact d1_ rfl rfl tt_
 obtain⟨l,j,h⟩:=Qe h
 refine AK.loop (body:=(fun st=>QgS g i st)) (fun st σ=>σ=⟨[(0,.sl 1 (g.map Qp)),(1,.sl 1 (i.map Qp)),(5,.I st)],[]⟩) (Sum.elim (fun q e σ=>e=.ret∧σ=⟨[(4,.b false)],[]⟩) (fun q e σ=>e=.exit 0∧σ=⟨[],[]⟩)) j rfl ?_ ?_
 ·rintro t o σ rfl h
  refine Qa hC [.n 5,.o (.ln g.length),.n 3] rfl ⟨tt_,Qk⟩ ?_
  rcases QP h with⟨f,h⟩|⟨f,h⟩
  ·obtain⟨s,m,h⟩:=Qe h
   obtain⟨p,k,h⟩:=Qe h
   refine Qa hC [.T,.n 5,.K [0,1,5] []] rfl ⟨tt_,f⟩ ?_
   refine AK.draw2 Ql hC mixed [.N,.N,.a (.row (Qp s)) none false,.N,.N,.N,.a (.row (Qp p)) none false,.N,.N] [] [] [0,1,5,25] [] rfl rfl rfl ⟨⟨tt_,(Qbs m)⟩,(Qbs k)⟩ rfl (by kernel_rfl) rfl rfl rfl ?_
   refine tg_ hC [.n 1] rfl ?_
   refine bg_ h (fun c h=>Qa hC [.T,.n 8,.K [4] []] rfl ⟨tt_,c⟩ ?_) fun c h=>Qa hC [.F,.n 8,.K [0,1,5] []] rfl ⟨tt_,c⟩ ?_
   ·cases h
    exact QhY rfl (an_ rfl rfl)
   cases h
   exact Qbl rfl rfl
  refine Qa hC [.F,.n 2,.K [] []] rfl ⟨tt_,f⟩ ?_
  cases h
  exact Qbd rfl (an_ rfl rfl)
 rcases l with(_ | _)
 ·replace h:QgT=some r:=h
  rintro e σ ⟨rfl,rfl⟩
  refine tg_ hC [.n 2] rfl ?_
  cases h
  exact d1_ rfl rfl tt_
 replace h:QgU=some r:=h
 rintro e σ ⟨rfl,rfl⟩
 refine tg_ hC [.n 8] rfl ?_
 cases h
 exact d1_ rfl rfl tt_
def Qdp (c:Int)(a:Int)(b:Int):Option Bool:=
 some ((decide (a≤c))&&(decide (c≤b)))
theorem Qdc (e a c){r}(h:Qdp e a c=some r):Qh prog 89 [.I e,.I a,.I c] [] (Qq (.b r) []):=by
 refine Qh.walk 15 func89 rfl rfl rfl fun C hC=>?_
 refine tg_ hC [.n 6] rfl ?_
 refine AK.meetX (fun σ=>σ=⟨[(6,.b ((decide (a≤e))&&(decide (e≤c))))],[]⟩) ?_ ?_
 ·refine tg_ hC [.n 5] rfl ?_
  rcases Qcd (decide (a≤e))with d | d
  ·refine Qa hC [.S 10 (.b true),.n 6,.S 6 (.b ((decide (a≤e))&&(decide (e≤c)))),.K [6] []] rfl ⟨(tc_ d),(congrArg V.b (QhP d rfl))⟩ ?_
   exact AK.met rfl
  refine Qa hC [.S 10 (.b false),.n 6,.S 6 (.b ((decide (a≤e))&&(decide (e≤c)))),.K [6] []] rfl ⟨(tc_ d),(congrArg V.b (QhQ d rfl))⟩ ?_
  exact AK.met rfl
 rintro σ rfl
 refine tg_ hC [.n 2] rfl ?_
 cases h
 exact d1_ rfl rfl tt_
def QiT (a:Qab):Option Int:=
 some (w64 ((w64 (a.Open+a.Done))+a.Failed))
theorem QjV (a){r}(h:QiT a=some r):Qh prog 90 [.agg (Qat a)] [] (Qq (.I r) []):=by
 refine Qh.walk 11 func90 rfl rfl rfl fun C hC=>?_
 refine tg_ hC [.n 20] rfl ?_
 cases h
 exact d1_ rfl rfl tt_
def QjW (a:Qab):Option Bool:=
 (Qdp a.Most 1 16).bind fun b=>
 bif (!b)then
 some true
 else
 (Qdp a.Enough 1 a.Most).bind fun c=>
 some (!c)
def QgV (a:Qab)(b:Int):Option (Int⊕(Unit⊕Unit)):=
 bif (decide (b<(([a.Open,a.Done,a.Failed]:List Int).length:Int)))then
 (idx ([a.Open,a.Done,a.Failed]:List Int) b).bind fun c=>
 (Qdp c 0 a.Most).bind fun d=>
 bif (!d)then
 some (.inr (.inl ()))
 else
 some (.inl (w64 (b+1)))
 else
 some (.inr (.inr ()))
def QgW : Option Bool:=
 some false
def QgX (c:Qab):Option Bool:=
 (QiT c).bind fun a=>
 (Qdp a 1 c.Most).bind fun b=>
 some b
def QeV (a:Qab)(b:Bool):Option Bool:=
 bif b then
 some false
 else
 (QK (fun st=>QgV a st) 0).bind (Sum.elim (fun q=>QgW) (fun q=>QgX a))
def Qgn (a:Qab):Option Bool:=
 (QjW a).bind (fun b=>QeV a b)
theorem QgY (f){r}(h:Qgn f=some r):Qh prog 50 [.agg (Qat f)] [] (Qq (.b r) []):=by
 refine Qh.walk 40 func50 rfl rfl rfl fun C hC=>?_
 refine tg_ hC [.n 8] rfl ?_
 obtain⟨u,w,h⟩:=Qe h
 replace h:QeV f u=some r:=h
 refine AK.meetX (fun σ=>σ=⟨[(1,.loc 1 0 0),(16,.b u)],[(1,.var (Qat f))]⟩) ?_ ?_
 ·replace h:=w
  obtain⟨G,x,h⟩:=Qe h
  refine Qa hC [.n 3,.o (.c false [.d,.d,.d] (.b G)),.n 2] rfl ⟨tt_,(Qdc _ _ _ x)⟩ ?_
  rcases QP h with⟨j,h⟩|⟨j,h⟩
  ·refine Qa hC [.S 9 (.b true),.n 8,.K [1,16] [1]] rfl (tc_ j) ?_
   cases h
   exact AK.met rfl
  obtain⟨H,y,h⟩:=Qe h
  refine Qa hC [.S 9 (.b false),.n 4,.o (.c false [.d,.d,.d] (.b H)),.n 3,.K [1,16] [1]] rfl ⟨(tc_ j),(Qdc _ _ _ y)⟩ ?_
  cases h
  exact AK.met rfl
 rintro σ rfl
 replace h:QeV f u=some r:=h
 refine tg_ hC [.n 1] rfl ?_
 refine bg_ h (fun k h=>Qa hC [.T,.n 7,.K [2] []] rfl ⟨tt_,k⟩ ?_) fun k h=>Qa hC [.F,.n 11,.v (.bd []) [] (.sl 1 (([f.Open,f.Done,f.Failed]:List Int).map Qp)),.o (.ln ([f.Open,f.Done,f.Failed]:List Int).length),.n 4,.K [1,23,24,25] [1]] rfl ⟨⟨⟨tt_,k⟩,rfl⟩,Qk⟩ ?_
 ·cases h
  exact d1_ rfl rfl tt_
 obtain⟨z,l,h⟩:=Qe h
 refine AK.loop (body:=(fun st=>QgV f st)) (fun st σ=>σ=⟨[(1,.loc 1 0 0),(23,.sl 1 (([f.Open,f.Done,f.Failed]:List Int).map Qp)),(24,.I (([f.Open,f.Done,f.Failed]:List Int).length:Int)),(25,.I st)],[(1,.var (Qat f))]⟩) (Sum.elim (fun q e σ=>e=.ret∧σ=⟨[(2,.b false)],[]⟩) (fun q e σ=>e=.exit 0∧σ=⟨[(1,.loc 1 0 0)],[(1,.var (Qat f))]⟩)) l rfl ?_ ?_
 ·rintro J o σ rfl h
  refine tg_ hC [.n 6] rfl ?_
  rcases QP h with⟨g,h⟩|⟨g,h⟩
  ·obtain⟨A,m,h⟩:=Qe h
   obtain⟨B,p,h⟩:=Qe h
   refine Qa hC [.T,.n 6,.o (.row (Qp A)),.n 9,.o (.c false [.d,.d,.d] (.b B)),.n 3] rfl ⟨⟨⟨tt_,g⟩,(Qbs m)⟩,(Qdc _ _ _ p)⟩ ?_
   refine bg_ h (fun i h=>Qa hC [.T,.n 8,.K [2] []] rfl ⟨tt_,i⟩ ?_) fun i h=>Qa hC [.F,.n 7,.K [1,23,24,25] [1]] rfl ⟨tt_,i⟩ ?_
   ·cases h
    exact QhY rfl (an_ rfl rfl)
   cases h
   exact Qbl rfl rfl
  refine Qa hC [.F,.n 2,.K [1] [1]] rfl ⟨tt_,g⟩ ?_
  cases h
  exact Qbd rfl (an_ rfl rfl)
 rcases z with(_ | _)
 ·replace h:QgW=some r:=h
  rintro e σ ⟨rfl,rfl⟩
  refine tg_ hC [.n 2] rfl ?_
  cases h
  exact d1_ rfl rfl tt_
 replace h:QgX f=some r:=h
 rintro e σ ⟨rfl,rfl⟩
 obtain⟨D,s,h⟩:=Qe h
 obtain⟨E,t,h⟩:=Qe h
 refine tg_ hC [.n 3,.K [1] [1]] rfl ?_
 refine AK.draw2 Ql hC mixed [.a .no (some ([],.agg (Qat f))) false,.a (.c false [.d] (.I D)) none false,.N,.N,.a (.c false [.d,.d,.d] (.b E)) none false,.N] [] [] [2] [] rfl rfl rfl ⟨⟨⟨tt_,rfl⟩,(QjV _ s)⟩,(Qdc _ _ _ t)⟩ rfl (by kernel_rfl) rfl rfl rfl ?_
 refine tg_ hC [.n 2] rfl ?_
 cases h
 exact d1_ rfl rfl tt_
def Qkl (a:Qab):Option Bool:=
 (Qgn a).bind fun b=>
 bif b then
 bif (decide (a.Enough≤a.Done))then
 some true
 else
 some (a.Open==0)
 else
 some false
def Qfc (a:Bool):Option Bool:=
 some a
def Qjj (a:Qab):Option Bool:=
 (Qkl a).bind (fun b=>Qfc b)
theorem Qkm (f){r}(h:Qjj f=some r):Qh prog 51 [.agg (Qat f)] [] (Qq (.b r) []):=by
 refine Qh.walk 17 func51 rfl rfl rfl fun C hC=>?_
 refine tg_ hC [.n 7] rfl ?_
 obtain⟨g,i,h⟩:=Qe h
 replace h:Qfc g=some r:=h
 refine AK.meetX (fun σ=>σ=⟨[(2,.b g)],[]⟩) ?_ ?_
 ·replace h:=i
  obtain⟨k,j,h⟩:=Qe h
  refine Qa hC [.n 1,.v .no [] (.agg (Qat f)),.o (.c false [.d] (.b k)),.n 1] rfl ⟨⟨tt_,rfl⟩,(QgY _ j)⟩ ?_
  refine bg_ h (fun a h=>Qa hC [.S 5 (.b true),.n 6] rfl (tc_ a) ?_) fun a h=>Qa hC [.S 5 (.b false),.n 13,.K [2] []] rfl (tc_ a) ?_
  ·refine bg_ h (fun e h=>Qa hC [.S 11 (.b true),.n 7,.K [2] []] rfl (tc_ e) ?_) fun e h=>Qa hC [.S 11 (.b false),.n 7,.K [2] []] rfl (tc_ e) ?_
   ·cases h
    exact AK.met rfl
   cases h
   exact AK.met rfl
  cases h
  exact AK.met rfl
 rintro σ rfl
 replace h:Qfc g=some r:=h
 refine tg_ hC [.n 2] rfl ?_
 cases h
 exact d1_ rfl rfl tt_
def Qjv (a:Qj)(b:Int)(next_2:Int):Option Bool:=
 bif (decide (a.Id≤b))then
 some true
 else
 bif (decide (next_2≤a.Id))then
 some true
 else
 bif (decide (a.Until<0))then
 some true
 else
 (Qgn a.Batch).bind fun c=>
 bif (!c)then
 some true
 else
 (Qjj a.Batch).bind fun d=>
 some d
def Qeq (a:Qj)(c:Int)(b:Bool):Option ((Int×Int)⊕(Unit⊕Unit)):=
 bif b then
 some (.inr (.inl ()))
 else
 some (.inl (a.Id,(w64 (c+1))))
def Qgo (e:(List Qj))(next_2:Int)(a:Int)(c:Int):Option ((Int×Int)⊕(Unit⊕Unit)):=
 bif (decide (c<(e.length:Int)))then
 (idx e c).bind fun b=>
 (Qjv b a next_2).bind (fun d=>Qeq b c d)
 else
 some (.inr (.inr ()))
def Qgp : Option Bool:=
 some false
def Qgq (a:(List Qj)):Option Bool:=
 some (decide ((a.length:Int)≤64))
def QfH (a:(List Qj))(next_2:Int):Option Bool:=
 (QK (fun st=>Qgo a next_2 st.1 st.2) (0,0)).bind (Sum.elim (fun q=>Qgp) (fun q=>Qgq a))
theorem Qgr (f next_2){r}(h:QfH f next_2=some r):Qh prog 21 [.sl 11 (f.map Qd),.I next_2] [] (Qq (.b r) []):=by
 refine Qh.walk 46 func21 rfl rfl rfl fun C hC=>?_
 refine Qa hC [.n 14,.o (.ln f.length),.n 4,.K [0,1,5,8,9,10] []] rfl ⟨tt_,Qk⟩ ?_
 obtain⟨y,s,h⟩:=Qe h
 refine AK.loop (body:=(fun st=>Qgo f next_2 st.1 st.2)) (fun st σ=>σ=⟨[(0,.sl 11 (f.map Qd)),(1,.I next_2),(5,.I st.1),(8,.sl 11 (f.map Qd)),(9,.I (f.length:Int)),(10,.I st.2)],[]⟩) (Sum.elim (fun q e σ=>e=.ret∧σ=⟨[(4,.b false)],[]⟩) (fun q e σ=>e=.exit 0∧σ=⟨[(0,.sl 11 (f.map Qd))],[]⟩)) s rfl ?_ ?_
 ·rintro ⟨z,A⟩ o σ rfl h
  refine tg_ hC [.n 6] rfl ?_
  rcases QP h with⟨m,h⟩|⟨m,h⟩
  ·obtain⟨a,t,h⟩:=Qe h
   refine Qa hC [.T,.n 6,.o (.row (Qd a)),.v .no [] (.agg (Qd a)),.n 2,.O 7 (.var (Qd a)),.n 4] rfl ⟨⟨⟨⟨tt_,m⟩,(Qbs t)⟩,rfl⟩,rfl⟩ ?_
   obtain⟨p,u,h⟩:=Qe h
   replace h:Qeq a A p=some o:=h
   refine AK.meetX (fun σ=>σ=⟨[(0,.sl 11 (f.map Qd)),(1,.I next_2),(7,.loc 7 0 0),(8,.sl 11 (f.map Qd)),(9,.I (f.length:Int)),(10,.I A),(39,.b p)],[(7,.var (Qd a))]⟩) ?_ ?_
   ·replace h:=u
    refine tg_ hC [.n 6] rfl ?_
    refine bg_ h (fun g h=>Qa hC [.S 18 (.b true),.n 22,.K [0,1,7,8,9,10,39] [7]] rfl (tc_ g) ?_) fun g h=>Qa hC [.S 18 (.b false),.n 6] rfl (tc_ g) ?_
    ·cases h
     exact AK.met rfl
    refine bg_ h (fun i h=>Qa hC [.S 24 (.b true),.n 16,.K [0,1,7,8,9,10,39] [7]] rfl (tc_ i) ?_) fun i h=>Qa hC [.S 24 (.b false),.n 5] rfl (tc_ i) ?_
    ·cases h
     exact AK.met rfl
    rcases QP h with⟨j,h⟩|⟨j,h⟩
    ·refine Qa hC [.S 29 (.b true),.n 11,.K [0,1,7,8,9,10,39] [7]] rfl (tc_ j) ?_
     cases h
     exact AK.met rfl
    obtain⟨B,w,h⟩:=Qe h
    refine Qa hC [.S 29 (.b false),.n 1,.v .no [] (.agg (Qat a.Batch)),.o (.c false [.d] (.b B)),.n 3] rfl ⟨⟨(tc_ j),rfl⟩,(QgY _ w)⟩ ?_
    rcases QP h with⟨k,h⟩|⟨k,h⟩
    ·refine Qa hC [.S 35 (.b true),.n 5,.K [0,1,7,8,9,10,39] [7]] rfl (tc_ k) ?_
     cases h
     exact AK.met rfl
    obtain⟨D,x,h⟩:=Qe h
    refine Qa hC [.S 35 (.b false),.n 1,.v .no [] (.agg (Qat a.Batch)),.o (.c false [.d] (.b D)),.n 2,.K [0,1,7,8,9,10,39] [7]] rfl ⟨⟨(tc_ k),rfl⟩,(Qkm _ x)⟩ ?_
    cases h
    exact AK.met rfl
   rintro σ rfl
   replace h:Qeq a A p=some o:=h
   refine tg_ hC [.n 1] rfl ?_
   refine bg_ h (fun l h=>Qa hC [.T,.n 9,.K [4] []] rfl ⟨tt_,l⟩ ?_) fun l h=>Qa hC [.F,.n 13,.K [0,1,5,8,9,10] []] rfl ⟨tt_,l⟩ ?_
   ·cases h
    exact QhY rfl (an_ rfl rfl)
   cases h
   exact Qbl rfl rfl
  refine Qa hC [.F,.n 2,.K [0] []] rfl ⟨tt_,m⟩ ?_
  cases h
  exact Qbd rfl (an_ rfl rfl)
 rcases y with(_ | _)
 ·replace h:Qgp=some r:=h
  rintro e σ ⟨rfl,rfl⟩
  refine tg_ hC [.n 2] rfl ?_
  cases h
  exact d1_ rfl rfl tt_
 replace h:Qgq f=some r:=h
 rintro e σ ⟨rfl,rfl⟩
 refine Qa hC [.n 5,.o (.ln f.length),.n 5] rfl ⟨tt_,Qk⟩ ?_
 cases h
 exact d1_ rfl rfl tt_
def Q8 (c:QBg)(e:QBg)(b:Int):Option (Int⊕(Unit⊕Unit)):=
 bif (decide (b<(c.length:Int)))then
 (idx c b).bind fun d=>
 (idx e b).bind fun a=>
 bif (!((d.1==a.1)&&(d.2==a.2)))then
 some (.inr (.inl ()))
 else
 some (.inl (w64 (b+1)))
 else
 some (.inr (.inr ()))
def Qbe : Option Bool:=
 some false
def Qbf : Option Bool:=
 some true
def QaX (a:QBg)(b:QBg):Option Bool:=
 bif ((a.length:Int) != (b.length:Int))then
 some false
 else
 (QK (fun st=>Q8 a b st) 0).bind (Sum.elim (fun q=>Qbe) (fun q=>Qbf))
theorem Qez (f j){r}(h:QaX f j=some r):Qh prog 96 [.sl 2 (f.map QH),.sl 2 (j.map QH)] [] (Qq (.b r) []):=by
 refine Qh.walk 26 func96 rfl rfl rfl fun C hC=>?_
 refine Qa hC [.n 9,.o (.ln f.length),.n 1,.o (.ln j.length),.n 3] rfl ⟨⟨tt_,Qk⟩,Qk⟩ ?_
 refine bg_ h (fun g h=>Qa hC [.T,.n 7,.K [4] []] rfl ⟨tt_,g⟩ ?_) fun g h=>Qa hC [.F,.n 6,.o (.ln f.length),.n 4,.K [0,1,12,13] []] rfl ⟨⟨tt_,g⟩,Qk⟩ ?_
 ·cases h
  exact d1_ rfl rfl tt_
 obtain⟨p,k,h⟩:=Qe h
 refine AK.loop (body:=(fun st=>Q8 f j st)) (fun st σ=>σ=⟨[(0,.sl 2 (f.map QH)),(1,.sl 2 (j.map QH)),(12,.I (f.length:Int)),(13,.I st)],[]⟩) (Sum.elim (fun q e σ=>e=.ret∧σ=⟨[(4,.b false)],[]⟩) (fun q e σ=>e=.exit 0∧σ=⟨[],[]⟩)) k rfl ?_ ?_
 ·rintro u o σ rfl h
  refine tg_ hC [.n 6] rfl ?_
  rcases QP h with⟨i,h⟩|⟨i,h⟩
  ·obtain⟨m,s,h⟩:=Qe h
   obtain⟨d,l,h⟩:=Qe h
   refine Qa hC [.T,.n 11,.K [0,1,5,12,13] []] rfl ⟨tt_,i⟩ ?_
   refine AK.draw2 Ql hC mixed [.N,.N,.a (.row (QH m)) none false,.a .no (some ([],.agg (QH m))) false,.N,.N,.a (.row (QH d)) none false,.a .no (some ([],.agg (QH d))) false,.a (.any (.b (!((m.1==d.1)&&(m.2==d.2)))) none) none false] [] [] [0,1,12,13,24] [] rfl rfl rfl ⟨⟨⟨⟨⟨tt_,(Qbs s)⟩,rfl⟩,(Qbs l)⟩,rfl⟩,(fun σ t v _=>Stp.neAgg rfl rfl (Qw hC.n rfl) (t _ _ rfl) (t _ _ rfl) rfl rfl (Qpi _ _ _ _))⟩ rfl (by kernel_rfl) rfl rfl rfl ?_
   refine tg_ hC [.n 1] rfl ?_
   refine bg_ h (fun c h=>Qa hC [.T,.n 8,.K [4] []] rfl ⟨tt_,c⟩ ?_) fun c h=>Qa hC [.F,.n 7,.K [0,1,12,13] []] rfl ⟨tt_,c⟩ ?_
   ·cases h
    exact QhY rfl (an_ rfl rfl)
   cases h
   exact Qbl rfl rfl
  refine Qa hC [.F,.n 2,.K [] []] rfl ⟨tt_,i⟩ ?_
  cases h
  exact Qbd rfl (an_ rfl rfl)
 rcases p with(_ | _)
 ·replace h:Qbe=some r:=h
  rintro e σ ⟨rfl,rfl⟩
  refine tg_ hC [.n 2] rfl ?_
  cases h
  exact d1_ rfl rfl tt_
 replace h:Qbf=some r:=h
 rintro e σ ⟨rfl,rfl⟩
 refine tg_ hC [.n 8] rfl ?_
 cases h
 exact d1_ rfl rfl tt_
def QeW (a:QBg)(b:QBg):Option Bool:=
 (QaX a b).bind fun c=>
 some c
theorem QiU (e f){r}(h:QeW e f=some r):Qh prog 63 [.sl 2 (e.map QH),.sl 2 (f.map QH)] [] (Qq (.b r) []):=by
 refine Qh.walk 8 func63 rfl rfl rfl fun C hC=>?_
 obtain⟨g,a,h⟩:=Qe h
 refine Qa hC [.n 9,.o (.c false [.d,.d] (.b g)),.n 4] rfl ⟨tt_,(Qez _ _ a)⟩ ?_
 cases h
 exact d1_ rfl rfl tt_
def Qs (d:QMk)(e:QMk)(a:Int):Option (Int⊕(Unit⊕Unit)):=
 bif (decide (a<(d.length:Int)))then
 (idx d a).bind fun f=>
 (idx e a).bind fun b=>
 (QeW f b).bind fun c=>
 bif (!c)then
 some (.inr (.inl ()))
 else
 some (.inl (w64 (a+1)))
 else
 some (.inr (.inr ()))
def QU : Option Bool:=
 some false
def QV : Option Bool:=
 some true
def QJ (a:QMk)(b:QMk):Option Bool:=
 bif ((a.length:Int) != (b.length:Int))then
 some false
 else
 (QK (fun st=>Qs a b st) 0).bind (Sum.elim (fun q=>QU) (fun q=>QV))
theorem Qbg (f j){r}(h:QJ f j=some r):Qh prog 62 [.sl 1 (f.map QS),.sl 1 (j.map QS),.clo (.func 63) [] []] [] (Qq (.b r) []):=by
 refine Qh.walk 32 func62 rfl rfl rfl fun C hC=>?_
 refine Qa hC [.n 9,.o (.ln f.length),.n 1,.o (.ln j.length),.n 3] rfl ⟨⟨tt_,Qk⟩,Qk⟩ ?_
 refine bg_ h (fun g h=>Qa hC [.T,.n 7,.K [6] []] rfl ⟨tt_,g⟩ ?_) fun g h=>Qa hC [.F,.n 6,.o (.ln f.length),.n 4,.K [1,2,15,16,17] []] rfl ⟨⟨tt_,g⟩,Qk⟩ ?_
 ·cases h
  exact d1_ rfl rfl tt_
 obtain⟨p,k,h⟩:=Qe h
 refine AK.loop (body:=(fun st=>Qs f j st)) (fun st σ=>σ=⟨[(1,.sl 1 (j.map QS)),(2,.clo (.func 63) [] []),(15,.sl 1 (f.map QS)),(16,.I (f.length:Int)),(17,.I st)],[]⟩) (Sum.elim (fun q e σ=>e=.ret∧σ=⟨[(6,.b false)],[]⟩) (fun q e σ=>e=.exit 0∧σ=⟨[],[]⟩)) k rfl ?_ ?_
 ·rintro w o σ rfl h
  refine tg_ hC [.n 6] rfl ?_
  rcases QP h with⟨i,h⟩|⟨i,h⟩
  ·obtain⟨v,s,h⟩:=Qe h
   obtain⟨t,l,h⟩:=Qe h
   obtain⟨u,m,h⟩:=Qe h
   refine Qa hC [.T,.n 7,.o (.row (QS v)),.n 9,.o (.row (QS t)),.n 9,.o (.c false [.d,.d] (.b u)),.n 3] rfl ⟨⟨⟨⟨tt_,i⟩,(Qbs s)⟩,(Qbs l)⟩,(QiU _ _ m)⟩ ?_
   refine bg_ h (fun a h=>Qa hC [.T,.n 8,.K [6] []] rfl ⟨tt_,a⟩ ?_) fun a h=>Qa hC [.F,.n 7,.K [1,2,15,16,17] []] rfl ⟨tt_,a⟩ ?_
   ·cases h
    exact QhY rfl (an_ rfl rfl)
   cases h
   exact Qbl rfl rfl
  refine Qa hC [.F,.n 2,.K [] []] rfl ⟨tt_,i⟩ ?_
  cases h
  exact Qbd rfl (an_ rfl rfl)
 rcases p with(_ | _)
 ·replace h:QU=some r:=h
  rintro e σ ⟨rfl,rfl⟩
  refine tg_ hC [.n 2] rfl ?_
  cases h
  exact d1_ rfl rfl tt_
 replace h:QV=some r:=h
 rintro e σ ⟨rfl,rfl⟩
 refine tg_ hC [.n 8] rfl ?_
 cases h
 exact d1_ rfl rfl tt_
def Qap (c:(List Int))(d:(List Int))(a:Int):Option (Int⊕(Unit⊕Unit)):=
 bif (decide (a<(c.length:Int)))then
 (idx c a).bind fun e=>
 (idx d a).bind fun b=>
 bif (e != b)then
 some (.inr (.inl ()))
 else
 some (.inl (w64 (a+1)))
 else
 some (.inr (.inr ()))
def Qb3 : Option Bool:=
 some false
def Qb4 : Option Bool:=
 some true
def Q7 (a:(List Int))(b:(List Int)):Option Bool:=
 bif ((a.length:Int) != (b.length:Int))then
 some false
 else
 (QK (fun st=>Qap a b st) 0).bind (Sum.elim (fun q=>Qb3) (fun q=>Qb4))
theorem Qaq (d i){r}(h:Q7 d i=some r):Qh prog 79 [.sl 1 (d.map Qp),.sl 1 (i.map Qp)] [] (Qq (.b r) []):=by
 refine Qh.walk 26 func79 rfl rfl rfl fun C hC=>?_
 refine Qa hC [.n 9,.o (.ln d.length),.n 1,.o (.ln i.length),.n 3] rfl ⟨⟨tt_,Qk⟩,Qk⟩ ?_
 refine bg_ h (fun f h=>Qa hC [.T,.n 7,.K [4] []] rfl ⟨tt_,f⟩ ?_) fun f h=>Qa hC [.F,.n 6,.o (.ln d.length),.n 4,.K [0,1,12,13] []] rfl ⟨⟨tt_,f⟩,Qk⟩ ?_
 ·cases h
  exact d1_ rfl rfl tt_
 obtain⟨l,j,h⟩:=Qe h
 refine AK.loop (body:=(fun st=>Qap d i st)) (fun st σ=>σ=⟨[(0,.sl 1 (d.map Qp)),(1,.sl 1 (i.map Qp)),(12,.I (d.length:Int)),(13,.I st)],[]⟩) (Sum.elim (fun q e σ=>e=.ret∧σ=⟨[(4,.b false)],[]⟩) (fun q e σ=>e=.exit 0∧σ=⟨[],[]⟩)) j rfl ?_ ?_
 ·rintro t o σ rfl h
  refine tg_ hC [.n 6] rfl ?_
  rcases QP h with⟨g,h⟩|⟨g,h⟩
  ·obtain⟨s,m,h⟩:=Qe h
   obtain⟨p,k,h⟩:=Qe h
   refine Qa hC [.T,.n 11,.K [0,1,5,12,13] []] rfl ⟨tt_,g⟩ ?_
   refine AK.draw2 Ql hC mixed [.N,.N,.a (.row (Qp s)) none false,.N,.N,.N,.a (.row (Qp p)) none false,.N,.N] [] [] [0,1,12,13,24] [] rfl rfl rfl ⟨⟨tt_,(Qbs m)⟩,(Qbs k)⟩ rfl (by kernel_rfl) rfl rfl rfl ?_
   refine tg_ hC [.n 1] rfl ?_
   refine bg_ h (fun c h=>Qa hC [.T,.n 8,.K [4] []] rfl ⟨tt_,c⟩ ?_) fun c h=>Qa hC [.F,.n 7,.K [0,1,12,13] []] rfl ⟨tt_,c⟩ ?_
   ·cases h
    exact QhY rfl (an_ rfl rfl)
   cases h
   exact Qbl rfl rfl
  refine Qa hC [.F,.n 2,.K [] []] rfl ⟨tt_,g⟩ ?_
  cases h
  exact Qbd rfl (an_ rfl rfl)
 rcases l with(_ | _)
 ·replace h:Qb3=some r:=h
  rintro e σ ⟨rfl,rfl⟩
  refine tg_ hC [.n 2] rfl ?_
  cases h
  exact d1_ rfl rfl tt_
 replace h:Qb4=some r:=h
 rintro e σ ⟨rfl,rfl⟩
 refine tg_ hC [.n 8] rfl ?_
 cases h
 exact d1_ rfl rfl tt_
def Qe5 (a:Qj)(b:Qj):Option Bool:=
 bif (a.Id==b.Id)then
 bif ((a.Batch.Most==b.Batch.Most)&&((a.Batch.Enough==b.Batch.Enough)&&((a.Batch.Open==b.Batch.Open)&&((a.Batch.Done==b.Batch.Done)&&(a.Batch.Failed==b.Batch.Failed)))))then
 bif (a.Until==b.Until)then
 bif (a.Mode.Task==b.Mode.Task)then
 (Q7 a.Mode.Vars b.Mode.Vars).bind fun c=>
 bif c then
 (Q7 a.Mode.Ins b.Mode.Ins).bind fun d=>
 bif d then
 (Q7 a.Mode.Outs b.Mode.Outs).bind fun e=>
 some e
 else
 some false
 else
 some false
 else
 some false
 else
 some false
 else
 some false
 else
 some false
def Qcm (a:Bool):Option Bool:=
 some a
def Qdd (a:Qj)(b:Qj):Option Bool:=
 (Qe5 a b).bind (fun c=>Qcm c)
theorem Qit (g i){r}(h:Qdd g i=some r):Qh prog 65 [.agg (Qd g),.agg (Qd i)] [] (Qq (.b r) []):=by
 refine Qh.walk 58 func65 rfl rfl rfl fun C hC=>?_
 refine tg_ hC [.n 8,.K [2,3] [2,3]] rfl ?_
 refine AK.draw2 Ql hC mixed [.N,.a .no (some ([],.agg (Qae g.Mode))) false,.a .no none true,.a .no (some ([],.agg (Qae i.Mode))) true,.N,.N,.m .s,.m .s] [2,3] [2,3] [2,3,5,6] [2,3,5,6] rfl rfl rfl ⟨⟨tt_,rfl⟩,rfl⟩ rfl (by kernel_rfl) rfl rfl rfl ?_
 refine Qa hC [.O 5 (.var (Qae g.Mode)),.O 6 (.var (Qae i.Mode)),.n 2] rfl ⟨⟨tt_,rfl⟩,rfl⟩ ?_
 obtain⟨w,x,h⟩:=Qe h
 replace h:Qcm w=some r:=h
 refine AK.meetX (fun σ=>σ=⟨[(4,.b w)],[]⟩) ?_ ?_
 ·replace h:=x
  refine tg_ hC [.n 7] rfl ?_
  refine bg_ h (fun j h=>Qa hC [.S 16 (.b true),.n 1,.v .no [] (.agg (Qat g.Batch)),.n 1,.v .no [] (.agg (Qat i.Batch)),.o (.any (.b ((g.Batch.Most==i.Batch.Most)&&((g.Batch.Enough==i.Batch.Enough)&&((g.Batch.Open==i.Batch.Open)&&((g.Batch.Done==i.Batch.Done)&&(g.Batch.Failed==i.Batch.Failed)))))) none),.n 2] rfl ⟨⟨⟨(tc_ j),rfl⟩,rfl⟩,(fun σ B D _=>Stp.eqAgg rfl rfl (Qw hC.n rfl) (B _ _ rfl) (B _ _ rfl) rfl rfl (Qph _ _ _ _ _ _ _ _ _ _))⟩ ?_) fun j h=>Qa hC [.S 16 (.b false),.n 43,.K [4] []] rfl (tc_ j) ?_
  ·refine bg_ h (fun k h=>Qa hC [.S 23 (.b true),.n 7] rfl (tc_ k) ?_) fun k h=>Qa hC [.S 23 (.b false),.n 36,.K [4] []] rfl (tc_ k) ?_
   ·refine bg_ h (fun l h=>Qa hC [.S 30 (.b true),.n 7] rfl (tc_ l) ?_) fun l h=>Qa hC [.S 30 (.b false),.n 29,.K [4] []] rfl (tc_ l) ?_
    ·rcases QP h with⟨p,h⟩|⟨p,h⟩
     ·obtain⟨y,q,h⟩:=Qe h
      refine Qa hC [.S 37 (.b true),.n 4,.o (.c false [.d,.d] (.b y)),.n 2] rfl ⟨(tc_ p),(Qaq _ _ q)⟩ ?_
      rcases QP h with⟨e,h⟩|⟨e,h⟩
      ·obtain⟨z,t,h⟩:=Qe h
       refine Qa hC [.S 44 (.b true),.n 4,.o (.c false [.d,.d] (.b z)),.n 2] rfl ⟨(tc_ e),(Qaq _ _ t)⟩ ?_
       rcases QP h with⟨f,h⟩|⟨f,h⟩
       ·obtain⟨A,u,h⟩:=Qe h
        refine Qa hC [.S 51 (.b true),.n 4,.o (.c false [.d,.d] (.b A)),.n 3,.K [4] []] rfl ⟨(tc_ f),(Qaq _ _ u)⟩ ?_
        cases h
        exact AK.met rfl
       refine Qa hC [.S 51 (.b false),.n 8,.K [4] []] rfl (tc_ f) ?_
       cases h
       exact AK.met rfl
      refine Qa hC [.S 44 (.b false),.n 15,.K [4] []] rfl (tc_ e) ?_
      cases h
      exact AK.met rfl
     refine Qa hC [.S 37 (.b false),.n 22,.K [4] []] rfl (tc_ p) ?_
     cases h
     exact AK.met rfl
    cases h
    exact AK.met rfl
   cases h
   exact AK.met rfl
  cases h
  exact AK.met rfl
 rintro σ rfl
 replace h:Qcm w=some r:=h
 refine tg_ hC [.n 2] rfl ?_
 cases h
 exact d1_ rfl rfl tt_
def Qx (d:(List Qj))(e:(List Qj))(a:Int):Option (Int⊕(Unit⊕Unit)):=
 bif (decide (a<(d.length:Int)))then
 (idx d a).bind fun f=>
 (idx e a).bind fun b=>
 (Qdd f b).bind fun c=>
 bif (!c)then
 some (.inr (.inl ()))
 else
 some (.inl (w64 (a+1)))
 else
 some (.inr (.inr ()))
def Q2 : Option Bool:=
 some false
def Q3 : Option Bool:=
 some true
def QO (a:(List Qj))(b:(List Qj)):Option Bool:=
 bif ((a.length:Int) != (b.length:Int))then
 some false
 else
 (QK (fun st=>Qx a b st) 0).bind (Sum.elim (fun q=>Q2) (fun q=>Q3))
theorem QbB (g k){r}(h:QO g k=some r):Qh prog 64 [.sl 11 (g.map Qd),.sl 11 (k.map Qd),.clo (.func 65) [] []] [] (Qq (.b r) []):=by
 refine Qh.walk 32 func64 rfl rfl rfl fun C hC=>?_
 refine Qa hC [.n 9,.o (.ln g.length),.n 1,.o (.ln k.length),.n 3] rfl ⟨⟨tt_,Qk⟩,Qk⟩ ?_
 refine bg_ h (fun i h=>Qa hC [.T,.n 7,.K [6] []] rfl ⟨tt_,i⟩ ?_) fun i h=>Qa hC [.F,.n 6,.o (.ln g.length),.n 4,.K [1,2,15,16,17] []] rfl ⟨⟨tt_,i⟩,Qk⟩ ?_
 ·cases h
  exact d1_ rfl rfl tt_
 obtain⟨t,l,h⟩:=Qe h
 refine AK.loop (body:=(fun st=>Qx g k st)) (fun st σ=>σ=⟨[(1,.sl 11 (k.map Qd)),(2,.clo (.func 65) [] []),(15,.sl 11 (g.map Qd)),(16,.I (g.length:Int)),(17,.I st)],[]⟩) (Sum.elim (fun q e σ=>e=.ret∧σ=⟨[(6,.b false)],[]⟩) (fun q e σ=>e=.exit 0∧σ=⟨[],[]⟩)) l rfl ?_ ?_
 ·rintro x o σ rfl h
  refine tg_ hC [.n 6] rfl ?_
  rcases QP h with⟨j,h⟩|⟨j,h⟩
  ·obtain⟨s,u,h⟩:=Qe h
   obtain⟨f,m,h⟩:=Qe h
   obtain⟨w,p,h⟩:=Qe h
   refine Qa hC [.T,.n 7,.o (.row (Qd s)),.v .no [] (.agg (Qd s)),.n 3,.O 8 (.var (Qd s)),.n 6,.o (.row (Qd f)),.v .no [] (.agg (Qd f)),.n 2,.O 9 (.var (Qd f)),.n 5,.v .no [] (.agg (Qd s)),.v .no [] (.agg (Qd f)),.o (.c false [.d,.d] (.b w)),.n 3] rfl ⟨⟨⟨⟨⟨⟨⟨⟨⟨⟨tt_,j⟩,(Qbs u)⟩,rfl⟩,rfl⟩,(Qbs m)⟩,rfl⟩,rfl⟩,rfl⟩,rfl⟩,(Qit _ _ p)⟩ ?_
   refine bg_ h (fun a h=>Qa hC [.T,.n 8,.K [6] []] rfl ⟨tt_,a⟩ ?_) fun a h=>Qa hC [.F,.n 7,.K [1,2,15,16,17] []] rfl ⟨tt_,a⟩ ?_
   ·cases h
    exact QhY rfl (an_ rfl rfl)
   cases h
   exact Qbl rfl rfl
  refine Qa hC [.F,.n 2,.K [] []] rfl ⟨tt_,j⟩ ?_
  cases h
  exact Qbd rfl (an_ rfl rfl)
 rcases t with(_ | _)
 ·replace h:Q2=some r:=h
  rintro e σ ⟨rfl,rfl⟩
  refine tg_ hC [.n 2] rfl ?_
  cases h
  exact d1_ rfl rfl tt_
 replace h:Q3=some r:=h
 rintro e σ ⟨rfl,rfl⟩
 refine tg_ hC [.n 8] rfl ?_
 cases h
 exact d1_ rfl rfl tt_
def QgZ (a:QN)(b:QN):Option Bool:=
 bif (a.Next==b.Next)then
 bif (a.Now==b.Now)then
 (QJ a.M b.M).bind fun d=>
 bif d then
 (QO a.Items b.Items).bind fun c=>
 some c
 else
 some false
 else
 some false
 else
 some false
def QdC (a:Bool):Option Bool:=
 some a
def Qc0 (a:QN)(b:QN):Option Bool:=
 (QgZ a b).bind (fun c=>QdC c)
theorem Qg0 (l m){r}(h:Qc0 l m=some r):Qh prog 28 [.agg (QC l),.agg (QC m)] [] (Qq (.b r) []):=by
 refine Qh.walk 31 func28 rfl rfl rfl fun C hC=>?_
 refine tg_ hC [.n 8] rfl ?_
 obtain⟨g,i,h⟩:=Qe h
 replace h:QdC g=some r:=h
 refine AK.meetX (fun σ=>σ=⟨[(4,.b g)],[]⟩) ?_ ?_
 ·replace h:=i
  refine tg_ hC [.n 7] rfl ?_
  refine bg_ h (fun a h=>Qa hC [.S 10 (.b true),.n 7] rfl (tc_ a) ?_) fun a h=>Qa hC [.S 10 (.b false),.n 22,.K [4] []] rfl (tc_ a) ?_
  ·rcases QP h with⟨c,h⟩|⟨c,h⟩
   ·obtain⟨o,j,h⟩:=Qe h
    refine Qa hC [.S 17 (.b true),.n 4,.cm (.fn) [] [] [] [.d,.d,.d] [] (.b o),.n 2] rfl ⟨(tc_ c),(Qbg _ _ j)⟩ ?_
    rcases QP h with⟨e,h⟩|⟨e,h⟩
    ·obtain⟨k,f,h⟩:=Qe h
     refine Qa hC [.S 24 (.b true),.n 4,.cm (.fn) [] [] [] [.d,.d,.d] [] (.b k),.n 3,.K [4] []] rfl ⟨(tc_ e),(QbB _ _ f)⟩ ?_
     cases h
     exact AK.met rfl
    refine Qa hC [.S 24 (.b false),.n 8,.K [4] []] rfl (tc_ e) ?_
    cases h
    exact AK.met rfl
   refine Qa hC [.S 17 (.b false),.n 15,.K [4] []] rfl (tc_ c) ?_
   cases h
   exact AK.met rfl
  cases h
  exact AK.met rfl
 rintro σ rfl
 replace h:QdC g=some r:=h
 refine tg_ hC [.n 2] rfl ?_
 cases h
 exact d1_ rfl rfl tt_
def Qjw (a:(List Qj))(o:(List Int))(b:(Int×Q6))(d:(Int×Q6))(c:(Int×QN)):Option Bool:=
 bif ((a.length:Int)==3)then
 (idx a 0).bind fun e=>
 bif (e.Id==2)then
 (idx a 2).bind fun f=>
 bif (f.Id==9)then
 (Qgj a 5).bind fun g=>
 bif (g==1)then
 (Qgj a 4).bind fun h=>
 bif (h==(-1))then
 (Qji a 3).bind fun i=>
 (QiS i ([9,2,5]:List Int)).bind fun j=>
 bif j then
 (QfH a 10).bind fun k=>
 bif k then
 (QfH a 9).bind fun l=>
 bif (!l)then
 (Qgh a 5).bind fun m=>
 bif ((m.length:Int)==2)then
 bif ((o.length:Int)==56)then
 bif (b.2.Do==6)then
 bif (b.1==0)then
 bif (d.1==4)then
 bif (c.1==0)then
 (Qc0 c.2 (QN.mk ([([(1,2)]:List (Int×Int)),([]:QBg)]:List QBg) a 10 4)).bind fun n=>
 some n
 else
 some false
 else
 some false
 else
 some false
 else
 some false
 else
 some false
 else
 some false
 else
 some false
 else
 some false
 else
 some false
 else
 some false
 else
 some false
 else
 some false
 else
 some false
 else
 some false
def Qer (a:Bool):Option Bool:=
 some a
def QfI  : Option Bool:=
 (QeK 5 3).bind fun h=>
 (Qfp ([]:List Qj) h).bind fun i=>
 (QeK 2 3).bind fun j=>
 (Qfp i j).bind fun k=>
 (QeK 9 1).bind fun l=>
 (Qfp k l).bind fun g=>
 (Qa6 (Q6.mk 6 0 (QX.mk 0 ([]:(List Int)) ([]:(List Int)) ([]:(List Int))) 0)).bind fun a=>
 bif ((a.length:Int) != 56)then
 some false
 else
 (QaB a).bind fun b=>
 (chk (decide (0≤1)&&decide (1≤a.length)&&decide (a.length≤a.length))).bind fun _=>
 (QaB ((a.drop 1).take (a.length-1))).bind fun c=>
 (Qa7 (QN.mk ([([(1,2)]:List (Int×Int)),([]:QBg)]:List QBg) g 10 4)).bind fun d=>
 (QaS d).bind fun e=>
 (Qjw g a b c e).bind (fun f=>Qer f)
theorem Qjx  {r:Bool}(h:QfI  = some r):Qh prog 9 [] [] (Qq (.b r) []):=by
 refine Qh.walk 118 func9 rfl rfl rfl fun C hC=>?_
 obtain⟨x3,a6,h⟩:=Qe h
 obtain⟨x4,a7,h⟩:=Qe h
 obtain⟨x5,a8,h⟩:=Qe h
 obtain⟨x6,a9,h⟩:=Qe h
 obtain⟨x7,b0,h⟩:=Qe h
 obtain⟨z,b1,h⟩:=Qe h
 obtain⟨H,b2,h⟩:=Qe h
 refine Qa hC [.n 7,.o (.c false [.d,.d] (.agg (Qd x3))),.o (.co false [.n 11,.d] 11 (x4.map Qd) x4.length),.o (.c false [.d,.d] (.agg (Qd x5))),.frz 11 (x4.map Qd) [11] [],.o (.co false [.d,.d] 11 (x6.map Qd) x6.length),.o (.c false [.d,.d] (.agg (Qd x7))),.frz 13 (x6.map Qd) [13] [],.o (.co false [.d,.d] 11 (z.map Qd) z.length),.n 5,.v .no [none,none,none,some 1,some 1,some 1,none] (.agg (QA (Q6.mk 6 0 (QX.mk 0 ([]:(List Int)) ([]:(List Int)) ([]:(List Int))) 0))),.o (.co false [.d] 1 (H.map Qn) H.length),.n 11] rfl ⟨⟨⟨⟨⟨⟨⟨⟨⟨⟨tt_,(QeL _ _ a6)⟩,⟨(Qfa _ _ a7),Qk,.inl rfl⟩⟩,(QeL _ _ a8)⟩,⟨tt_,(QbT Qk)⟩⟩,⟨(Qfa _ _ a9),Qk,.inl rfl⟩⟩,(QeL _ _ b0)⟩,⟨tt_,(QbT Qk)⟩⟩,⟨(Qfa _ _ b1),Qk,.inl rfl⟩⟩,rfl⟩,⟨(QcT _ b2),Qk,.inl rfl⟩⟩ ?_
 rcases QP h with⟨a,h⟩|⟨a,h⟩
 ·refine Qa hC [.T,.n 7] rfl ⟨tt_,a⟩ ?_
  cases h
  exact d1_ rfl rfl tt_
 obtain⟨A,J,h⟩:=Qe h
 obtain⟨y,h⟩:=QcD h
 obtain⟨B,L,h⟩:=Qe h
 obtain⟨D,M,h⟩:=Qe h
 obtain⟨x,N,h⟩:=Qe h
 refine Qa hC [.F,.n 5,.frz 17 (H.map Qn) [2,17,18,22] [],.o (.c false [.d] (.tup [.agg (QA A.2),.I A.1])),.n 5,.O 3 (.var (QA A.2)),.n 6,.o (.any (.sl 1 (((H.drop 1).take (H.length-1)).map Qn)) none),.o (.c false [.d] (.tup [.agg (QA B.2),.I B.1])),.n 5,.O 5 (.var (QA B.2)),.n 5,.v .no [] (.agg (QH (1,2))),.v (.bd []) [] (.sl 2 (([(1,2)]:List (Int×Int)).map QH)),.v (.bd [none,some 2]) [] (.sl 1 (([([(1,2)]:List (Int×Int)),([]:QBg)]:List QBg).map QS)),.n 1,.v .no [] (.agg [.sl 1 (([([(1,2)]:List (Int×Int)),([]:QBg)]:List QBg).map QS),.own 15 z.length,.I 10,.I 4]),.n 2,.O 7 (.var [.sl 1 (([([(1,2)]:List (Int×Int)),([]:QBg)]:List QBg).map QS),.own 15 z.length,.I 10,.I 4]),.n 5,.frz 15 (z.map Qd) [1,15,35,36,38] [7],.cm (.fn) [] [(39,600)] [] [.d] [(600,.arr 1 (D.map Qn))] (.own 600 D.length),.frz 39 (D.map Qn) [39] [],.o (.c false [.d] (.tup [.agg (QC x.2),.I x.1])),.n 5,.O 8 (.var (QC x.2)),.n 4] rfl ⟨⟨⟨⟨⟨⟨⟨⟨⟨⟨⟨⟨⟨⟨⟨⟨⟨tt_,a⟩,⟨⟨⟨⟨tt_,(QbT Qk)⟩,(QbT Qk)⟩,(QbT Qk)⟩,(QbT Qk)⟩⟩,(QbP _ J)⟩,rfl⟩,(fun σ h1 h2 _=>Stp.sliceD rfl rfl (Qw hC.n rfl) (h1 _ _ rfl) (Ql.es rfl) (Bnd.val (h1 _ _ rfl) (QbO (Qlc y)) rfl) (Bnd.none_ Qk) (QbO (Qld y)) (Nat.le_of_eq Qk.symm) Qms)⟩,(QbP _ L)⟩,rfl⟩,rfl⟩,rfl⟩,rfl⟩,rfl⟩,rfl⟩,⟨⟨⟨⟨⟨⟨tt_,(QbT Qk)⟩,(QbT Qk)⟩,(QbT Qk)⟩,⟨(QbT Qk),tt_⟩⟩,⟨(QbT Qk),tt_⟩⟩,⟨(QbT Qk),tt_⟩⟩⟩,(QcW _ M)⟩,⟨tt_,(QbT Qk)⟩⟩,(QcY _ N)⟩,rfl⟩ ?_
 obtain⟨E,P,h⟩:=Qe h
 replace h:Qer E=some r:=h
 refine AK.meetX (fun σ=>σ=⟨[(0,.b E)],[]⟩) ?_ ?_
 ·replace h:=P
  refine Qa hC [.n 2,.o (.ln z.length),.n 2] rfl ⟨tt_,Qk⟩ ?_
  rcases QP h with⟨e,h⟩|⟨e,h⟩
  ·obtain⟨b3,U,h⟩:=Qe h
   refine Qa hC [.S 46 (.b true),.n 1,.o (.row (Qd b3)),.n 5] rfl ⟨(tc_ e),(Qbs U)⟩ ?_
   rcases QP h with⟨f,h⟩|⟨f,h⟩
   ·obtain⟨b4,W,h⟩:=Qe h
    refine Qa hC [.S 53 (.b true),.n 1,.o (.row (Qd b4)),.n 5] rfl ⟨(tc_ f),(Qbs W)⟩ ?_
    rcases QP h with⟨g,h⟩|⟨g,h⟩
    ·obtain⟨b5,X,h⟩:=Qe h
     refine Qa hC [.S 60 (.b true),.n 1,.o (.c false [.d,.d] (.I b5)),.n 3] rfl ⟨(tc_ g),(QgR _ _ X)⟩ ?_
     rcases QP h with⟨i,h⟩|⟨i,h⟩
     ·obtain⟨b6,Y,h⟩:=Qe h
      refine Qa hC [.S 65 (.b true),.n 1,.o (.c false [.d,.d] (.I b6)),.n 3] rfl ⟨(tc_ i),(QgR _ _ Y)⟩ ?_
      rcases QP h with⟨j,h⟩|⟨j,h⟩
      ·obtain⟨G,Z,h⟩:=Qe h
       obtain⟨b7,a0,h⟩:=Qe h
       refine Qa hC [.S 70 (.b true),.n 1,.o (.co false [.d,.d] 1 (G.map Qp) G.length),.v (.bd []) [] (.sl 1 (([9,2,5]:List Int).map Qp)),.o (.c true [.o (G.map Qp),.d] (.b b7)),.n 2] rfl ⟨⟨⟨(tc_ j),⟨(Qkk (fun _=>0) _ _ Z),Qk,.inl rfl⟩⟩,rfl⟩,⟨(Qog rfl),(QjU _ _ a0)⟩⟩ ?_
       rcases QP h with⟨k,h⟩|⟨k,h⟩
       ·obtain⟨b8,a1,h⟩:=Qe h
        refine Qa hC [.S 76 (.b true),.n 1,.o (.c false [.d,.d] (.b b8)),.n 2] rfl ⟨(tc_ k),(Qgr _ _ a1)⟩ ?_
        rcases QP h with⟨l,h⟩|⟨l,h⟩
        ·obtain⟨b9,a2,h⟩:=Qe h
         refine Qa hC [.S 80 (.b true),.n 1,.o (.c false [.d,.d] (.b b9)),.n 3] rfl ⟨(tc_ l),(Qgr _ _ a2)⟩ ?_
         rcases QP h with⟨m,h⟩|⟨m,h⟩
         ·obtain⟨a3,a4,h⟩:=Qe h
          refine Qa hC [.S 85 (.b true),.n 1,.o (.co false [.d,.d] 11 (a3.map Qd) a3.length),.n 4] rfl ⟨(tc_ m),⟨(QgP _ _ a4),Qk,.inl rfl⟩⟩ ?_
          refine bg_ h (fun p h=>Qa hC [.S 91 (.b true),.n 1,.o (.ln H.length),.n 3] rfl ⟨(tc_ p),Qk⟩ ?_) fun p h=>Qa hC [.S 91 (.b false),.n 28,.K [0] []] rfl (tc_ p) ?_
          ·refine bg_ h (fun q h=>Qa hC [.S 96 (.b true),.n 5] rfl (tc_ q) ?_) fun q h=>Qa hC [.S 96 (.b false),.n 23,.K [0] []] rfl (tc_ q) ?_
           ·refine bg_ h (fun s h=>Qa hC [.S 101 (.b true),.n 4] rfl (tc_ s) ?_) fun s h=>Qa hC [.S 101 (.b false),.n 18,.K [0] []] rfl (tc_ s) ?_
            ·refine bg_ h (fun t h=>Qa hC [.S 105 (.b true),.n 4] rfl (tc_ t) ?_) fun t h=>Qa hC [.S 105 (.b false),.n 14,.K [0] []] rfl (tc_ t) ?_
             ·refine bg_ h (fun u h=>Qa hC [.S 109 (.b true),.n 4] rfl (tc_ u) ?_) fun u h=>Qa hC [.S 109 (.b false),.n 10,.K [0] []] rfl (tc_ u) ?_
              ·rcases QP h with⟨w,h⟩|⟨w,h⟩
               ·obtain⟨c0,a5,h⟩:=Qe h
                refine Qa hC [.S 113 (.b true),.v .no [] (.agg (QC x.2)),.v .no [] (.agg (QC (QN.mk ([([(1,2)]:List (Int×Int)),([]:QBg)]:List QBg) z 10 4))),.o (.c false [.d,.d] (.b c0)),.n 3,.K [0] []] rfl ⟨⟨⟨(tc_ w),rfl⟩,rfl⟩,(Qg0 _ _ a5)⟩ ?_
                cases h
                exact AK.met rfl
               refine Qa hC [.S 113 (.b false),.n 6,.K [0] []] rfl (tc_ w) ?_
               cases h
               exact AK.met rfl
              cases h
              exact AK.met rfl
             cases h
             exact AK.met rfl
            cases h
            exact AK.met rfl
           cases h
           exact AK.met rfl
          cases h
          exact AK.met rfl
         refine Qa hC [.S 85 (.b false),.n 34,.K [0] []] rfl (tc_ m) ?_
         cases h
         exact AK.met rfl
        refine Qa hC [.S 80 (.b false),.n 39,.K [0] []] rfl (tc_ l) ?_
        cases h
        exact AK.met rfl
       refine Qa hC [.S 76 (.b false),.n 43,.K [0] []] rfl (tc_ k) ?_
       cases h
       exact AK.met rfl
      refine Qa hC [.S 70 (.b false),.n 49,.K [0] []] rfl (tc_ j) ?_
      cases h
      exact AK.met rfl
     refine Qa hC [.S 65 (.b false),.n 54,.K [0] []] rfl (tc_ i) ?_
     cases h
     exact AK.met rfl
    refine Qa hC [.S 60 (.b false),.n 59,.K [0] []] rfl (tc_ g) ?_
    cases h
    exact AK.met rfl
   refine Qa hC [.S 53 (.b false),.n 66,.K [0] []] rfl (tc_ f) ?_
   cases h
   exact AK.met rfl
  refine Qa hC [.S 46 (.b false),.n 73,.K [0] []] rfl (tc_ e) ?_
  cases h
  exact AK.met rfl
 rintro σ rfl
 replace h:Qer E=some r:=h
 refine tg_ hC [.n 2] rfl ?_
 cases h
 exact d1_ rfl rfl tt_
def QbF (b:(List Qj))(f:Int)(a:Int):Option ((Int×Int)⊕Int):=
 bif (decide (a<(b.length:Int)))then
 (idx b a).bind fun c=>
 (idx b a).bind fun d=>
 (idx b a).bind fun e=>
 some (.inl ((w64 ((w64 ((w64 (f+(c.Mode.Vars.length:Int)))+(d.Mode.Ins.length:Int)))+(e.Mode.Outs.length:Int))),(w64 (a+1))))
 else
 some (.inr f)
def Qhx (a:Int):Option Bool:=
 some (decide (a≤1000))
def Qft (a:(List Qj)):Option Bool:=
 bif (decide (80<(a.length:Int)))then
 some false
 else
 (QK (fun st=>QbF a st.1 st.2) (0,0)).bind (fun q=>Qhx q)
theorem Qkn (f){r}(h:Qft f=some r):Qh prog 10 [.sl 11 (f.map Qd)] [] (Qq (.b r) []):=by
 refine Qh.walk 41 func10 rfl rfl rfl fun C hC=>?_
 refine Qa hC [.n 9,.o (.ln f.length),.n 3] rfl ⟨tt_,Qk⟩ ?_
 refine bg_ h (fun d h=>Qa hC [.T,.n 7,.K [2] []] rfl ⟨tt_,d⟩ ?_) fun d h=>Qa hC [.F,.n 14,.K [0,3,4] []] rfl ⟨tt_,d⟩ ?_
 ·cases h
  exact d1_ rfl rfl tt_
 obtain⟨u,g,h⟩:=Qe h
 refine AK.loop (body:=(fun st=>QbF f st.1 st.2)) (fun st σ=>σ=⟨[(0,.sl 11 (f.map Qd)),(3,.I st.1),(4,.I st.2)],[]⟩) (fun q e σ=>e=.exit 0∧σ=⟨[(3,.I q)],[]⟩) g rfl ?_ ?_
 ·rintro ⟨v,w⟩ o σ rfl h
  refine Qa hC [.n 5,.o (.ln f.length),.n 3] rfl ⟨tt_,Qk⟩ ?_
  rcases QP h with⟨c,h⟩|⟨c,h⟩
  ·obtain⟨i,j,h⟩:=Qe h
   obtain⟨k,l,h⟩:=Qe h
   obtain⟨p,t,h⟩:=Qe h
   refine Qa hC [.T,.n 4,.K [0,3,4] []] rfl ⟨tt_,c⟩ ?_
   refine AK.draw2 Ql hC mixed [.N,.N,.N,.a (.row (Qd i)) none false,.N,.N,.N,.a (.ln i.Mode.Vars.length) none false,.N,.N,.N,.a (.row (Qd k)) none false,.N,.N,.N,.a (.ln k.Mode.Ins.length) none false,.N,.N,.N,.a (.row (Qd p)) none false,.N,.N,.N,.a (.ln p.Mode.Outs.length) none false,.N,.m .s] [] [] [0,3,4] [] rfl rfl rfl ⟨⟨⟨⟨⟨⟨tt_,(Qbs j)⟩,Qk⟩,(Qbs l)⟩,Qk⟩,(Qbs t)⟩,Qk⟩ rfl (by kernel_rfl) rfl rfl rfl ?_
   refine tg_ hC [.n 7,.K [0,3,4] []] rfl ?_
   cases h
   exact Qbl rfl rfl
  refine Qa hC [.F,.n 2,.K [3] []] rfl ⟨tt_,c⟩ ?_
  cases h
  exact Qbd rfl (an_ rfl rfl)
 replace h:Qhx u=some r:=h
 rintro e σ ⟨rfl,rfl⟩
 refine tg_ hC [.n 10] rfl ?_
 cases h
 exact d1_ rfl rfl tt_
def QbG (c:QMk)(d:Int)(a:Int):Option ((Int×Int)⊕Int):=
 bif ((decide (a<(c.length:Int)))&&(decide (a<100)))then
 (idx c a).bind fun b=>
 some (.inl ((w64 (d+(b.length:Int))),(w64 (a+1))))
 else
 some (.inr d)
def Qhy (a:QMk)(b:Int):Option Bool:=
 some ((decide ((a.length:Int)≤70))&&(decide (b≤300)))
def Qfu (a:QMk):Option Bool:=
 (QK (fun st=>QbG a st.1 st.2) (0,0)).bind (fun q=>Qhy a q)
theorem Qko (a){r}(h:Qfu a=some r):Qh prog 23 [.sl 1 (a.map QS)] [] (Qq (.b r) []):=by
 refine Qh.walk 29 func23 rfl rfl rfl fun C hC=>?_
 refine tg_ hC [.n 17,.K [0,3,4] []] rfl ?_
 obtain⟨l,i,h⟩:=Qe h
 refine AK.loop (body:=(fun st=>QbG a st.1 st.2)) (fun st σ=>σ=⟨[(0,.sl 1 (a.map QS)),(3,.I st.1),(4,.I st.2)],[]⟩) (fun q e σ=>e=.exit 0∧σ=⟨[(0,.sl 1 (a.map QS)),(3,.I q)],[]⟩) i rfl ?_ ?_
 ·rintro ⟨m,g⟩ o σ rfl h
  refine tg_ hC [.n 2] rfl ?_
  refine AK.meetX (fun σ=>σ=⟨[(0,.sl 1 (a.map QS)),(3,.I m),(4,.I g),(12,.b ((decide (g<(a.length:Int)))&&(decide (g<100))))],[]⟩) ?_ ?_
  ·refine Qa hC [.n 3,.o (.ln a.length),.n 2] rfl ⟨tt_,Qk⟩ ?_
   rcases Qcd (decide (g<(a.length:Int)))with d | d
   ·refine Qa hC [.S 9 (.b true),.n 4,.S 12 (.b ((decide (g<(a.length:Int)))&&(decide (g<100)))),.K [0,3,4,12] []] rfl ⟨(tc_ d),(congrArg V.b (QhP d rfl))⟩ ?_
    exact AK.met rfl
   refine Qa hC [.S 9 (.b false),.n 4,.S 12 (.b ((decide (g<(a.length:Int)))&&(decide (g<100)))),.K [0,3,4,12] []] rfl ⟨(tc_ d),(congrArg V.b (QhQ d rfl))⟩ ?_
   exact AK.met rfl
  rintro σ rfl
  refine tg_ hC [.n 1] rfl ?_
  rcases QP h with⟨f,h⟩|⟨f,h⟩
  ·obtain⟨j,k,h⟩:=Qe h
   refine Qa hC [.T,.n 8,.o (.row (QS j)),.n 1,.o (.ln j.length),.n 10,.K [0,3,4] []] rfl ⟨⟨⟨tt_,f⟩,(Qbs k)⟩,Qk⟩ ?_
   cases h
   exact Qbl rfl rfl
  refine Qa hC [.F,.n 2,.K [0,3] []] rfl ⟨tt_,f⟩ ?_
  cases h
  exact Qbd rfl (an_ rfl rfl)
 replace h:Qhy a l=some r:=h
 rintro e σ ⟨rfl,rfl⟩
 refine tg_ hC [.n 3] rfl ?_
 refine AK.meetX (fun σ=>σ=⟨[(2,.b ((decide ((a.length:Int)≤70))&&(decide (l≤300))))],[]⟩) ?_ ?_
 ·refine Qa hC [.n 2,.o (.ln a.length),.n 2] rfl ⟨tt_,Qk⟩ ?_
  rcases Qcd (decide ((a.length:Int)≤70))with c | c
  ·refine Qa hC [.S 25 (.b true),.n 5,.S 2 (.b ((decide ((a.length:Int)≤70))&&(decide (l≤300)))),.K [2] []] rfl ⟨(tc_ c),(congrArg V.b (QhP c rfl))⟩ ?_
   exact AK.met rfl
  refine Qa hC [.S 25 (.b false),.n 5,.S 2 (.b ((decide ((a.length:Int)≤70))&&(decide (l≤300)))),.K [2] []] rfl ⟨(tc_ c),(congrArg V.b (QhQ c rfl))⟩ ?_
  exact AK.met rfl
 rintro σ rfl
 refine tg_ hC [.n 2] rfl ?_
 cases h
 exact d1_ rfl rfl tt_
def Qhz (a:QX)(b:QX):Option Bool:=
 bif (a.Task==b.Task)then
 (Q7 a.Vars b.Vars).bind fun d=>
 bif d then
 (Q7 a.Ins b.Ins).bind fun e=>
 bif e then
 (Q7 a.Outs b.Outs).bind fun c=>
 some c
 else
 some false
 else
 some false
 else
 some false
def QdW (a:Bool):Option Bool:=
 some a
def Qee (a:QX)(b:QX):Option Bool:=
 (Qhz a b).bind (fun c=>QdW c)
theorem Qkp (p q){r}(h:Qee p q=some r):Qh prog 35 [.agg (Qae p),.agg (Qae q)] [] (Qq (.b r) []):=by
 refine Qh.walk 31 func35 rfl rfl rfl fun C hC=>?_
 refine tg_ hC [.n 8] rfl ?_
 obtain⟨i,j,h⟩:=Qe h
 replace h:QdW i=some r:=h
 refine AK.meetX (fun σ=>σ=⟨[(4,.b i)],[]⟩) ?_ ?_
 ·replace h:=j
  refine tg_ hC [.n 7] rfl ?_
  rcases QP h with⟨e,h⟩|⟨e,h⟩
  ·obtain⟨s,k,h⟩:=Qe h
   refine Qa hC [.S 10 (.b true),.n 4,.o (.c false [.d,.d] (.b s)),.n 2] rfl ⟨(tc_ e),(Qaq _ _ k)⟩ ?_
   rcases QP h with⟨f,h⟩|⟨f,h⟩
   ·obtain⟨t,l,h⟩:=Qe h
    refine Qa hC [.S 17 (.b true),.n 4,.o (.c false [.d,.d] (.b t)),.n 2] rfl ⟨(tc_ f),(Qaq _ _ l)⟩ ?_
    rcases QP h with⟨a,h⟩|⟨a,h⟩
    ·obtain⟨m,g,h⟩:=Qe h
     refine Qa hC [.S 24 (.b true),.n 4,.o (.c false [.d,.d] (.b m)),.n 3,.K [4] []] rfl ⟨(tc_ a),(Qaq _ _ g)⟩ ?_
     cases h
     exact AK.met rfl
    refine Qa hC [.S 24 (.b false),.n 8,.K [4] []] rfl (tc_ a) ?_
    cases h
    exact AK.met rfl
   refine Qa hC [.S 17 (.b false),.n 15,.K [4] []] rfl (tc_ f) ?_
   cases h
   exact AK.met rfl
  refine Qa hC [.S 10 (.b false),.n 22,.K [4] []] rfl (tc_ e) ?_
  cases h
  exact AK.met rfl
 rintro σ rfl
 replace h:QdW i=some r:=h
 refine tg_ hC [.n 2] rfl ?_
 cases h
 exact d1_ rfl rfl tt_
def Qde (a:(Int×QN))(c:(List Int)):Option Bool:=
 bif (a.1==0)then
 (Qa7 a.2).bind fun b=>
 some (!Qej (QdV b) (QdV c))
 else
 some false
def Qdf (a:(Int×Q6))(c:(List Int)):Option Bool:=
 bif (a.1==0)then
 (Qa6 a.2).bind fun b=>
 some (!Qej (QdV b) (QdV c))
 else
 some false
def QeX (f:Bool)(b:(Int×QN))(g:QN)(a:(Int×Q6))(c:Q6):Option Bool:=
 bif f then
 bif (b.1==0)then
 (Qc0 g b.2).bind fun d=>
 bif d then
 bif (a.1==0)then
 bif (a.2.Do==c.Do)then
 bif (a.2.Id==c.Id)then
 bif (a.2.Num==c.Num)then
 (Qee a.2.Mode c.Mode).bind fun e=>
 some e
 else
 some false
 else
 some false
 else
 some false
 else
 some false
 else
 some false
 else
 some false
 else
 some false
def Qdg (a:Bool):Option Bool:=
 some a
def Qb5 (e:Bool)(a:(Int×QN))(f:QN)(b:(Int×Q6))(g:Q6)(c:Bool):Option Bool:=
 bif c then
 some false
 else
 (QeX e a f b g).bind (fun d=>Qdg d)
def Qb6 (f:(List Int))(g:Bool)(a:(Int×QN))(h:QN)(b:(Int×Q6))(i:Q6)(c:Bool):Option Bool:=
 bif c then
 some false
 else
 (QaB f).bind fun d=>
 (Qdf d f).bind (fun e=>Qb5 g a h b i e)
def QbX (b:QN)(a:Q6)(c:(List Int)):Option Bool:=
 (QfI).bind fun j=>
 (Qft b.Items).bind fun k=>
 (Qfu b.M).bind fun l=>
 bif ((!k)||((!l)||((decide (3000<(c.length:Int)))||(decide (100<(w64 ((w64 ((a.Mode.Vars.length:Int)+(a.Mode.Ins.length:Int)))+(a.Mode.Outs.length:Int))))))))then
 some j
 else
 (Qa7 b).bind fun d=>
 (QaS d).bind fun e=>
 (Qa6 a).bind fun f=>
 (QaB f).bind fun g=>
 (QaS c).bind fun h=>
 (Qde h c).bind (fun i=>Qb6 c j e b g a i)
theorem Qie (m e l){r}(h:QbX m e l=some r):Qh prog 8 [.agg (QC m),.agg (QA e),.sl 1 (l.map Qn)] [] (Qq (.b r) []):=by
 refine Qh.walk 138 func8 rfl rfl rfl fun C hC=>?_
 obtain⟨J,b6,h⟩:=Qe h
 obtain⟨L,b7,h⟩:=Qe h
 obtain⟨M,b8,h⟩:=Qe h
 refine Qa hC [.n 9,.o (.c false [] (.b J)),.n 7,.o (.c false [.d] (.b L)),.n 7,.o (.c false [.d] (.b M)),.n 5] rfl ⟨⟨⟨tt_,(Qjx  b6)⟩,(Qkn _ b7)⟩,(Qko _ b8)⟩ ?_
 refine AK.meetX (fun σ=>σ=⟨[(2,.sl 1 (l.map Qn)),(3,.loc 3 0 0),(4,.loc 4 0 0),(7,.b J),(52,.b ((!L)||((!M)||((decide (3000<(l.length:Int)))||(decide (100<(w64 ((w64 ((e.Mode.Vars.length:Int)+(e.Mode.Ins.length:Int)))+(e.Mode.Outs.length:Int)))))))))],[(3,.var (QC m)),(4,.var (QA e))]⟩) ?_ ?_
 ·refine tg_ hC [.n 4] rfl ?_
  rcases Qcd (!L)with i | i
  ·refine Qa hC [.S 27 (.b true),.n 26,.S 52 (.b ((!L)||((!M)||((decide (3000<(l.length:Int)))||(decide (100<(w64 ((w64 ((e.Mode.Vars.length:Int)+(e.Mode.Ins.length:Int)))+(e.Mode.Outs.length:Int))))))))),.K [2,3,4,7,52] [3,4]] rfl ⟨(tc_ i),(congrArg V.b (orT i rfl))⟩ ?_
   exact AK.met rfl
  refine Qa hC [.S 27 (.b false),.n 4] rfl (tc_ i) ?_
  rcases Qcd (!M)with j | j
  ·refine Qa hC [.S 31 (.b true),.n 22,.S 52 (.b ((!L)||((!M)||((decide (3000<(l.length:Int)))||(decide (100<(w64 ((w64 ((e.Mode.Vars.length:Int)+(e.Mode.Ins.length:Int)))+(e.Mode.Outs.length:Int))))))))),.K [2,3,4,7,52] [3,4]] rfl ⟨(tc_ j),(congrArg V.b (orF i (orT j rfl)))⟩ ?_
   exact AK.met rfl
  refine Qa hC [.S 31 (.b false),.n 1,.o (.ln l.length),.n 3] rfl ⟨(tc_ j),Qk⟩ ?_
  rcases Qcd (decide (3000<(l.length:Int)))with k | k
  ·refine Qa hC [.S 36 (.b true),.n 17,.S 52 (.b ((!L)||((!M)||((decide (3000<(l.length:Int)))||(decide (100<(w64 ((w64 ((e.Mode.Vars.length:Int)+(e.Mode.Ins.length:Int)))+(e.Mode.Outs.length:Int))))))))),.K [2,3,4,7,52] [3,4]] rfl ⟨(tc_ k),(congrArg V.b (orF i (orF j (orT k rfl))))⟩ ?_
   exact AK.met rfl
  refine Qa hC [.S 36 (.b false),.n 3,.o (.ln e.Mode.Vars.length),.n 3,.o (.ln e.Mode.Ins.length),.n 4,.o (.ln e.Mode.Outs.length),.n 4,.S 52 (.b ((!L)||((!M)||((decide (3000<(l.length:Int)))||(decide (100<(w64 ((w64 ((e.Mode.Vars.length:Int)+(e.Mode.Ins.length:Int)))+(e.Mode.Outs.length:Int))))))))),.K [2,3,4,7,52] [3,4]] rfl ⟨⟨⟨⟨(tc_ k),Qk⟩,Qk⟩,Qk⟩,(congrArg V.b (orF i (orF j (orF k rfl))))⟩ ?_
  exact AK.met rfl
 rintro σ rfl
 refine tg_ hC [.n 1] rfl ?_
 rcases QP h with⟨p,h⟩|⟨p,h⟩
 ·refine Qa hC [.T,.n 8] rfl ⟨tt_,p⟩ ?_
  cases h
  exact d1_ rfl rfl tt_
 obtain⟨P,a2,h⟩:=Qe h
 obtain⟨f,a3,h⟩:=Qe h
 obtain⟨U,a4,h⟩:=Qe h
 obtain⟨g,a5,h⟩:=Qe h
 obtain⟨G,a6,h⟩:=Qe h
 refine Qa hC [.F,.n 4,.v .no [] (.agg (QC m)),.o (.co false [.d] 1 (P.map Qn) P.length),.frz 56 (P.map Qn) [56] [],.o (.c false [.d] (.tup [.agg (QC f.2),.I f.1])),.n 5,.O 10 (.var (QC f.2)),.n 5,.v .no [] (.agg (QA e)),.o (.co false [.d] 1 (U.map Qn) U.length),.frz 62 (U.map Qn) [62] [],.o (.c false [.d] (.tup [.agg (QA g.2),.I g.1])),.n 5,.O 12 (.var (QA g.2)),.n 6,.o (.c false [.d] (.tup [.agg (QC G.2),.I G.1])),.n 5,.O 14 (.var (QC G.2)),.n 5] rfl ⟨⟨⟨⟨⟨⟨⟨⟨⟨⟨⟨⟨⟨tt_,p⟩,rfl⟩,⟨(QcW _ a2),Qk,.inl rfl⟩⟩,⟨tt_,(QbT Qk)⟩⟩,(QcY _ a3)⟩,rfl⟩,rfl⟩,⟨(QcT _ a4),Qk,.inl rfl⟩⟩,⟨tt_,(QbT Qk)⟩⟩,(QbP _ a5)⟩,rfl⟩,(QcY _ a6)⟩,rfl⟩ ?_
 obtain⟨W,a7,h⟩:=Qe h
 replace h:Qb6 l J f m g e W=some r:=h
 refine AK.meetX (fun σ=>σ=⟨[(2,.sl 1 (l.map Qn)),(3,.loc 3 0 0),(4,.loc 4 0 0),(7,.b J),(10,.loc 10 0 0),(11,.I f.1),(12,.loc 12 0 0),(13,.I g.1),(80,.b W)],[(3,.var (QC m)),(4,.var (QA e)),(10,.var (QC f.2)),(12,.var (QA g.2))]⟩) ?_ ?_
 ·replace h:=a7
  refine tg_ hC [.K [2,3,4,7,10,11,12,13,14,15] [3,4,10,12,14]] rfl ?_
  rcases QP h with⟨q,h⟩|⟨q,h⟩
  ·obtain⟨X,a8,h⟩:=Qe h
   refine AK.draw2 Ql hC mixed [.N,.N,.a .no (some ([],.b true)) false,.a .no (some ([],.agg (QC G.2))) false,.a (.cd false [.d] 1 (X.map Qn) X.length) none false,.a (.any (.s (QdV X)) none) none false,.N,.a (.any (.s (QdV l)) none) none false,.N,.N] [] [] [2,3,4,7,10,11,12,13,80] [3,4,10,12] rfl rfl rfl ⟨⟨⟨⟨(tc_ q),rfl⟩,⟨(QcW _ a8),Qk⟩⟩,(fun σ Y h2 _=>Stp.b2s rfl rfl (Qw hC.n rfl) (Y _ _ rfl) rfl QkQ Qjs (Ql.sb rfl))⟩,(fun σ Y h2 _=>Stp.b2s rfl rfl (Qw hC.n rfl) (Y _ _ rfl) rfl QkQ Qjs (Ql.sb rfl))⟩ rfl (by kernel_rfl) rfl rfl rfl ?_
   refine tg_ hC [.K [2,3,4,7,10,11,12,13,80] [3,4,10,12]] rfl ?_
   cases h
   exact AK.met rfl
  refine AK.draw2 Ql hC mixed [.N,.N,.a .no (some ([],.b false)) false,.N,.N,.N,.N,.N,.N,.N] [] [] [2,3,4,7,10,11,12,13,80] [3,4,10,12] rfl rfl rfl (tc_ q) rfl (by kernel_rfl) rfl rfl rfl ?_
  refine tg_ hC [.K [2,3,4,7,10,11,12,13,80] [3,4,10,12]] rfl ?_
  cases h
  exact AK.met rfl
 rintro σ rfl
 replace h:Qb6 l J f m g e W=some r:=h
 refine tg_ hC [.n 1] rfl ?_
 rcases QP h with⟨t,h⟩|⟨t,h⟩
 ·refine Qa hC [.T,.n 7] rfl ⟨tt_,t⟩ ?_
  cases h
  exact d1_ rfl rfl tt_
 obtain⟨H,a9,h⟩:=Qe h
 refine Qa hC [.F,.n 5,.o (.c false [.d] (.tup [.agg (QA H.2),.I H.1])),.n 5,.O 16 (.var (QA H.2)),.n 5] rfl ⟨⟨⟨tt_,t⟩,(QbP _ a9)⟩,rfl⟩ ?_
 obtain⟨Z,b0,h⟩:=Qe h
 replace h:Qb5 J f m g e Z=some r:=h
 refine AK.meetX (fun σ=>σ=⟨[(3,.loc 3 0 0),(4,.loc 4 0 0),(7,.b J),(10,.loc 10 0 0),(11,.I f.1),(12,.loc 12 0 0),(13,.I g.1),(95,.b Z)],[(3,.var (QC m)),(4,.var (QA e)),(10,.var (QC f.2)),(12,.var (QA g.2))]⟩) ?_ ?_
 ·replace h:=b0
  refine tg_ hC [.K [2,3,4,7,10,11,12,13,16,17] [3,4,10,12,16]] rfl ?_
  rcases QP h with⟨u,h⟩|⟨u,h⟩
  ·obtain⟨a0,b1,h⟩:=Qe h
   refine AK.draw2 Ql hC mixed [.N,.N,.a .no (some ([],.b true)) false,.a .no (some ([],.agg (QA H.2))) false,.a (.cd false [.d] 1 (a0.map Qn) a0.length) none false,.a (.any (.s (QdV a0)) none) none false,.N,.a (.any (.s (QdV l)) none) none false,.N,.N] [] [] [3,4,7,10,11,12,13,95] [3,4,10,12] rfl rfl rfl ⟨⟨⟨⟨(tc_ u),rfl⟩,⟨(QcT _ b1),Qk⟩⟩,(fun σ Y h2 _=>Stp.b2s rfl rfl (Qw hC.n rfl) (Y _ _ rfl) rfl QkQ Qjs (Ql.sb rfl))⟩,(fun σ Y h2 _=>Stp.b2s rfl rfl (Qw hC.n rfl) (Y _ _ rfl) rfl QkQ Qjs (Ql.sb rfl))⟩ rfl (by kernel_rfl) rfl rfl rfl ?_
   refine tg_ hC [.K [3,4,7,10,11,12,13,95] [3,4,10,12]] rfl ?_
   cases h
   exact AK.met rfl
  refine AK.draw2 Ql hC mixed [.N,.N,.a .no (some ([],.b false)) false,.N,.N,.N,.N,.N,.N,.N] [] [] [3,4,7,10,11,12,13,95] [3,4,10,12] rfl rfl rfl (tc_ u) rfl (by kernel_rfl) rfl rfl rfl ?_
  refine tg_ hC [.K [3,4,7,10,11,12,13,95] [3,4,10,12]] rfl ?_
  cases h
  exact AK.met rfl
 rintro σ rfl
 replace h:Qb5 J f m g e Z=some r:=h
 refine tg_ hC [.n 1] rfl ?_
 refine bg_ h (fun w h=>Qa hC [.T,.n 7,.K [6] []] rfl ⟨tt_,w⟩ ?_) fun w h=>Qa hC [.F,.n 3] rfl ⟨tt_,w⟩ ?_
 ·cases h
  exact d1_ rfl rfl tt_
 obtain⟨a1,b2,h⟩:=Qe h
 replace h:Qdg a1=some r:=h
 refine AK.meetX (fun σ=>σ=⟨[(6,.b a1)],[]⟩) ?_ ?_
 ·replace h:=b2
  refine tg_ hC [.n 3] rfl ?_
  refine bg_ h (fun x h=>Qa hC [.S 97 (.b true),.n 4] rfl (tc_ x) ?_) fun x h=>Qa hC [.S 97 (.b false),.n 42,.K [6] []] rfl (tc_ x) ?_
  ·rcases QP h with⟨y,h⟩|⟨y,h⟩
   ·obtain⟨b9,b4,h⟩:=Qe h
    refine Qa hC [.S 101 (.b true),.v .no [] (.agg (QC m)),.v .no [] (.agg (QC f.2)),.o (.c false [.d,.d] (.b b9)),.n 2] rfl ⟨⟨⟨(tc_ y),rfl⟩,rfl⟩,(Qg0 _ _ b4)⟩ ?_
    refine bg_ h (fun z h=>Qa hC [.S 106 (.b true),.n 4] rfl (tc_ z) ?_) fun z h=>Qa hC [.S 106 (.b false),.n 33,.K [6] []] rfl (tc_ z) ?_
    ·refine bg_ h (fun A h=>Qa hC [.S 110 (.b true),.n 7] rfl (tc_ A) ?_) fun A h=>Qa hC [.S 110 (.b false),.n 29,.K [6] []] rfl (tc_ A) ?_
     ·refine bg_ h (fun B h=>Qa hC [.S 117 (.b true),.n 7] rfl (tc_ B) ?_) fun B h=>Qa hC [.S 117 (.b false),.n 22,.K [6] []] rfl (tc_ B) ?_
      ·refine bg_ h (fun D h=>Qa hC [.S 124 (.b true),.n 7] rfl (tc_ D) ?_) fun D h=>Qa hC [.S 124 (.b false),.n 15,.K [6] []] rfl (tc_ D) ?_
       ·rcases QP h with⟨E,h⟩|⟨E,h⟩
        ·obtain⟨c0,b5,h⟩:=Qe h
         refine Qa hC [.S 131 (.b true),.n 1,.v .no [] (.agg (Qae g.2.Mode)),.n 1,.v .no [] (.agg (Qae e.Mode)),.o (.c false [.d,.d] (.b c0)),.n 3,.K [6] []] rfl ⟨⟨⟨(tc_ E),rfl⟩,rfl⟩,(Qkp _ _ b5)⟩ ?_
         cases h
         exact AK.met rfl
        refine Qa hC [.S 131 (.b false),.n 8,.K [6] []] rfl (tc_ E) ?_
        cases h
        exact AK.met rfl
       cases h
       exact AK.met rfl
      cases h
      exact AK.met rfl
     cases h
     exact AK.met rfl
    cases h
    exact AK.met rfl
   refine Qa hC [.S 101 (.b false),.n 38,.K [6] []] rfl (tc_ y) ?_
   cases h
   exact AK.met rfl
  cases h
  exact AK.met rfl
 rintro σ rfl
 replace h:Qdg a1=some r:=h
 refine tg_ hC [.n 2] rfl ?_
 cases h
 exact d1_ rfl rfl tt_

end Go.Proofs
