/- What functions of the program do, as functions over plain data, and the walks that show it: printed by a program. -/
import Derived.Test.YtbcmaoldnhphlaaO3V3
import Derived.Test.YtbcmaoldnhphlaaProg
set_option linter.unusedVariables false
set_option linter.unusedSimpArgs false
set_option linter.unusedSectionVars false
set_option linter.deprecated false
set_option maxRecDepth 100000
set_option maxHeartbeats 4000000
noncomputable section
namespace Go.Proofs
open Go Go.RowKit Go.Vm Go.Proofs.Try
structure QZ where
 Task:Int
 Vars:(List Int)
 Ins:(List Int)
 Outs:(List Int)
structure QO where
 Most:Int
 Enough:Int
 Open:Int
 Done:Int
 Failed:Int
structure Qk where
 Id:Int
 Mode:QZ
 Batch:QO
 Until:Int
structure QS where
 M:(List (List (Int×Int)))
 Items:(List Qk)
 Next:Int
 Now:Int
structure QW where
 Do:Int
 Id:Int
 Mode:QZ
 Num:Int
structure Qc where
 b:(List Int)
 bad:Bool
structure Qi where
 id:Int
 at_:Int
 place:Int
structure Qe where
 b:(List Int)
 at_:Int
 bad:Bool
def Qs (x:Int):List V:=[.i .i64 x]
def Qy (x:(Int×Int)):List V:=[.i .i64 x.1,.i .i64 x.2]
def QG (x:(List (Int×Int))):List V:=[.sl 2 (x.map Qy)]
def Q4 (x:QZ):List V:=[.i .i64 x.Task,.sl 1 (x.Vars.map Qs),.sl 1 (x.Ins.map Qs),.sl 1 (x.Outs.map Qs)]
def Qah (x:QO):List V:=[.i .i64 x.Most,.i .i64 x.Enough,.i .i64 x.Open,.i .i64 x.Done,.i .i64 x.Failed]
def Qd (x:Qk):List V:=[.i .i64 x.Id,.i .i64 x.Mode.Task,.sl 1 (x.Mode.Vars.map Qs),.sl 1 (x.Mode.Ins.map Qs),.sl 1 (x.Mode.Outs.map Qs),.i .i64 x.Batch.Most,.i .i64 x.Batch.Enough,.i .i64 x.Batch.Open,.i .i64 x.Batch.Done,.i .i64 x.Batch.Failed,.i .i64 x.Until]
def QP (x:QS):List V:=[.sl 1 (x.M.map QG),.sl 11 (x.Items.map Qd),.i .i64 x.Next,.i .i64 x.Now]
def QD (x:QW):List V:=[.i .i64 x.Do,.i .i64 x.Id,.i .i64 x.Mode.Task,.sl 1 (x.Mode.Vars.map Qs),.sl 1 (x.Mode.Ins.map Qs),.sl 1 (x.Mode.Outs.map Qs),.i .i64 x.Num]
def Qp (x:Int):List V:=[.i .u8 x]
def Qlx (x:(List Int)):List V:=[.sl 1 (x.map Qp)]
def Qb (x:Qc):List V:=[.sl 1 (x.b.map Qp),.b x.bad]
def Qj (x:Qi):List V:=[.i .i64 x.id,.i .i64 x.at_,.i .i64 x.place]
def Qg (x:Qe):List V:=[.sl 1 (x.b.map Qp),.i .i64 x.at_,.b x.bad]
theorem QnU (a0 a1 a2 a3 a4 b0 b1 b2 b3 b4:Int):EqT Try.prog 27 [.int .i64 a0,.int .i64 a1,.int .i64 a2,.int .i64 a3,.int .i64 a4] [.int .i64 b0,.int .i64 b1,.int .i64 b2,.int .i64 b3,.int .i64 b4] ((a0==b0)&&((a1==b1)&&((a2==b2)&&((a3==b3)&&(a4==b4))))):=by
 refine⟨by kernel_rfl,fun w=>?_⟩
 have u3:=Try.underlying3
 have g3:=Try.isAgg3
 have z3:=Try.sizeOf3
 have hS:Try.prog.underlying 27=some (.struct (Try.prog.fieldsOf 27)):=by kernel_rfl
 have hp:Try.prog.stoodInHeld 27=false:=by kernel_rfl
 show(Op.equalIn (9999+1) 27 (.agg #[.int .i64 a0,.int .i64 a1,.int .i64 a2,.int .i64 a3,.int .i64 a4]) (.agg #[.int .i64 b0,.int .i64 b1,.int .i64 b2,.int .i64 b3,.int .i64 b4])).run Try.prog w=_
 rw [run_equalIn_agg w 9999 27 _ _ hS hp]
 simp only [Program.fieldsOf,Try.underlying27]
 go_simp
 by_cases h0:a0=b0<;>by_cases h1:a1=b1<;>by_cases h2:a2=b2<;>by_cases h3:a3=b3<;>by_cases h4:a4=b4<;>simp [h0,h1,h2,h3,h4]
theorem QnV (a0 a1 b0 b1:Int):EqT Try.prog 64 [.int .i64 a0,.int .i64 a1] [.int .i64 b0,.int .i64 b1] ((a0==b0)&&(a1==b1)):=by
 refine⟨by kernel_rfl,fun w=>?_⟩
 have u3:=Try.underlying3
 have g3:=Try.isAgg3
 have z3:=Try.sizeOf3
 show(Op.equalIn (9999+1) 64 (.agg #[.int .i64 a0,.int .i64 a1]) (.agg #[.int .i64 b0,.int .i64 b1])).run Try.prog w=_
 rw [Op.equalIn]
 simp only [Sem.run_bind,run_underlying Try.underlying64,Result.andThen_ok]
 simp only [Std.Legacy.Range.forIn_eq_forIn_range',Std.Legacy.Range.size,Nat.sub_zero,Nat.add_sub_cancel,Nat.div_one,List.range'_succ,List.range'_zero,List.forIn_cons,List.forIn_nil]
 go_simp
 by_cases h0:a0=b0<;>by_cases h1:a1=b1<;>simp [h0,h1]
def Qm6 : Go.Shelf.Ren:=⟨fun | 22=>39 | 29=>80 | 30=>81 | n=>n,fun | 24=>22 | 9=>29 | n=>n,fun n=>n⟩
theorem QmA : QiV Try.prog Qm6 "slices.Insert[[]baldric/api.Item,baldric/api.Item]" "slices.overlaps[baldric/api.Item]" 29 11 136 (.agg #[.int .i64 0,.int .i64 0,.slice none 0 0,.slice none 0 0,.slice none 0 0,.int .i64 0,.int .i64 0,.int .i64 0,.int .i64 0,.int .i64 0,.int .i64 0]) where
 mixed:=by kernel_rfl
 f22:=Try.func39.trans (congrArg some (by kernel_rfl))
 f29:=Try.func80.trans (congrArg some (by kernel_rfl))
 nm:=by kernel_rfl
 nx:=by kernel_rfl
 fd:=by kernel_rfl
 t0:=Try.underlying0
 t3:=Try.underlying3
 t4:=Try.underlying4
 t24:=Try.underlying22
 zE:=Try.sizeOf29
 iE:=by kernel_rfl
 zc:=by kernel_rfl
 z0:=by decide
 small:=by decide
theorem QfH : Qjz Try.prog 129 .u64=true:=by kernel_rfl
theorem QmB : Qjz Try.prog 3 .i64=true:=by kernel_rfl
theorem QmC : Qjz Try.prog 5 .u8=true:=by kernel_rfl
theorem Qly : Qeg Try.prog 3 (V.i .i64) (Value.int .i64):=Qeg.int (by kernel_rfl)
theorem QmD : (Qce Try.prog 120 "Pop" = some (127,true)∧Qjw Try.prog 120=true)∨(Qce Try.prog 120 "Pop" = some (127,false)∧Qgs Try.prog 120=true):=.inl ⟨by kernel_rfl,by kernel_rfl⟩
theorem QlV : (Qce Try.prog 120 "Push" = some (128,true)∧Qjw Try.prog 120=true)∨(Qce Try.prog 120 "Push" = some (128,false)∧Qgs Try.prog 120=true):=.inl ⟨by kernel_rfl,by kernel_rfl⟩
theorem mixed : Try.prog.follows .mixedOrders=true:=by kernel_rfl
theorem Qlz : Qhp Try.prog 111=some (3,116):=by kernel_rfl
theorem QnW : Qhp Try.prog 74=some (3,4):=by kernel_rfl
theorem Qj2 : Qce Try.prog 120 "Len" = some (124,false)∧Qg1 Try.prog 120 113=true∧Qb5 Try.prog 113=some false:=⟨by kernel_rfl,by kernel_rfl,by kernel_rfl⟩
theorem Qht : Qce Try.prog 120 "Less" = some (125,false)∧Qg1 Try.prog 120 113=true∧Qb5 Try.prog 113=some false:=⟨by kernel_rfl,by kernel_rfl,by kernel_rfl⟩
theorem Qhu : Qce Try.prog 120 "Swap" = some (126,false)∧Qg1 Try.prog 120 113=true∧Qb5 Try.prog 113=some false:=⟨by kernel_rfl,by kernel_rfl,by kernel_rfl⟩
theorem QoK : Try.prog.underlying 23=some (.slice 3):=by kernel_rfl
theorem Qor : Try.prog.underlying 116=some (.pointer 118):=by kernel_rfl
theorem Qos : QeM Try.prog 116 (.lit (.pointer none)):=QeM.one (v:=.pointer none) (by kernel_rfl)
theorem Qo0 : QeM Try.prog 4 (V.b false):=QeM.one (v:=.bool false) (by kernel_rfl)
theorem Qo1 : Qam Try.prog 3=some [.i .i64 0]:=by kernel_rfl
theorem Qo2 : Qam Try.prog 5=some [.i .u8 0]:=by kernel_rfl
theorem QoL : Qam Try.prog 25=some [.i .i64 0,.lit (.slice none 0 0),.lit (.slice none 0 0),.lit (.slice none 0 0)]:=by kernel_rfl
theorem QoM : Qam Try.prog 27=some [.i .i64 0,.i .i64 0,.i .i64 0,.i .i64 0,.i .i64 0]:=by kernel_rfl
theorem QoN : Qam Try.prog 29=some [.i .i64 0,.i .i64 0,.lit (.slice none 0 0),.lit (.slice none 0 0),.lit (.slice none 0 0),.i .i64 0,.i .i64 0,.i .i64 0,.i .i64 0,.i .i64 0,.i .i64 0]:=by kernel_rfl
theorem QoO : Qam Try.prog 43=some [.lit (.slice none 0 0),.lit (.slice none 0 0),.i .i64 0,.i .i64 0]:=by kernel_rfl
theorem QoP : Qam Try.prog 45=some [.i .i64 0,.i .i64 0,.i .i64 0,.lit (.slice none 0 0),.lit (.slice none 0 0),.lit (.slice none 0 0),.i .i64 0]:=by kernel_rfl
theorem QoQ : Qam Try.prog 64=some [.i .i64 0,.i .i64 0]:=by kernel_rfl
theorem QoR : Qam Try.prog 66=some [.lit (.slice none 0 0)]:=by kernel_rfl
theorem QoS : Qam Try.prog 93=some [.lit (.slice none 0 0),.b false]:=by kernel_rfl
theorem Qil : Qam Try.prog 95=some [.lit (.pointer none)]:=by kernel_rfl
theorem Qot : Qam Try.prog 103=some [.lit (.slice none 0 0),.i .i64 0,.b false]:=by kernel_rfl
theorem Qou : Qam Try.prog 115=some [.lit (.slice none 0 0),.lit (.map none)]:=by kernel_rfl
theorem Qov : Qam Try.prog 116=some [.lit (.pointer none)]:=by kernel_rfl
theorem Qow : Qam Try.prog 118=some [.i .i64 0,.i .i64 0,.i .i64 0]:=by kernel_rfl
theorem Qm7 : Qam Try.prog 140=some [.lit (.pointer none)]:=by kernel_rfl
def tab : Tab:={ ag:=[(3,false),(4,false),(5,false),(22,false),(23,false),(25,true),(27,true),(29,true),(41,false),(43,true),(45,true),(47,false),(64,true),(66,false),(95,false),(111,false),(113,false),(116,false),(140,false)],sz:=[(3,1),(4,1),(22,1),(23,1),(25,4),(27,5),(29,11),(41,1),(43,4),(45,7),(47,1),(64,2),(113,1),(116,1)],fo:=[(25,[0,1,2,3]),(27,[0,1,2,3,4]),(29,[0,1,5,10]),(43,[0,1,2,3]),(45,[0,1,2,6]),(93,[0,1]),(103,[0,1,2]),(115,[0,1]),(118,[0,1,2])],sp:=[(25,[(0,1),(1,1),(2,1),(3,1)]),(27,[(0,1),(1,1),(2,1),(3,1),(4,1)]),(29,[(0,1),(1,4),(5,5),(10,1)]),(43,[(0,1),(1,1),(2,1),(3,1)]),(45,[(0,1),(1,1),(2,4),(6,1)]),(93,[(0,1),(1,1)]),(103,[(0,1),(1,1),(2,1)]),(115,[(0,1),(1,1)]),(118,[(0,1),(1,1),(2,1)])],es:=[(22,(29,11,136)),(23,(3,1,8)),(40,(66,1,24)),(41,(66,1,24)),(47,(5,1,1)),(65,(64,2,16)),(66,(64,2,16)),(113,(116,1,8)),(135,(95,1,8)),(141,(140,1,8))],ar:=[(64,(2,1))],zv:=[(3,[.i .i64 0]),(5,[.i .u8 0]),(25,[.i .i64 0,.lit (.slice none 0 0),.lit (.slice none 0 0),.lit (.slice none 0 0)]),(27,[.i .i64 0,.i .i64 0,.i .i64 0,.i .i64 0,.i .i64 0]),(29,[.i .i64 0,.i .i64 0,.lit (.slice none 0 0),.lit (.slice none 0 0),.lit (.slice none 0 0),.i .i64 0,.i .i64 0,.i .i64 0,.i .i64 0,.i .i64 0,.i .i64 0]),(43,[.lit (.slice none 0 0),.lit (.slice none 0 0),.i .i64 0,.i .i64 0]),(45,[.i .i64 0,.i .i64 0,.i .i64 0,.lit (.slice none 0 0),.lit (.slice none 0 0),.lit (.slice none 0 0),.i .i64 0]),(64,[.i .i64 0,.i .i64 0]),(66,[.lit (.slice none 0 0)]),(93,[.lit (.slice none 0 0),.b false]),(95,[.lit (.pointer none)]),(103,[.lit (.slice none 0 0),.i .i64 0,.b false]),(115,[.lit (.slice none 0 0),.lit (.map none)]),(116,[.lit (.pointer none)]),(118,[.i .i64 0,.i .i64 0,.i .i64 0]),(140,[.lit (.pointer none)])],sb:=[9],bo:=[4],cc:=[116,120],en:=[9,10,11,12,13,16,18,19,21,23,24,25,26,27,28,29,30,31,32,33,34,35,36,37,38,39,40,41,43,44,45,46,50,51,54,55,56,57,58,59,60,61,62,63,64,65,66,67,68,69,70,71,72,73,74,75,76,77,78,79,82,84,85,86,87,89,90,91,92,93,94,95,96,97,98,99,100,101,102,104,105,124,125,126,127,128] }
theorem Qo : Qbf Try.prog tab:=Tab.ok (by kernel_rfl) (QcG.2 ⟨Qo1,QcG.2 ⟨Qo2,QcG.2 ⟨QoL,QcG.2 ⟨QoM,QcG.2 ⟨QoN,QcG.2 ⟨QoO,QcG.2 ⟨QoP,QcG.2 ⟨QoQ,QcG.2 ⟨QoR,QcG.2 ⟨QoS,QcG.2 ⟨Qil,QcG.2 ⟨Qot,QcG.2 ⟨Qou,QcG.2 ⟨Qov,QcG.2 ⟨Qow,QcG.2 ⟨Qm7,fun _ h=>(by cases h)⟩⟩⟩⟩⟩⟩⟩⟩⟩⟩⟩⟩⟩⟩⟩⟩)
theorem Qa {C:Ctx}{Q:Exit→St→Prop}{n:Nat}{pt pt1:Pt}{ks ks1:List Fr}{σ σ1:St}{φ:Prop}(hC:QcL Try.prog C n)(ds:List Dir)(e:Vm.go Try.prog C tab n ds pt ks σ True=some ⟨pt1,ks1,σ1,φ⟩)(hφ:φ)(h:AK Try.prog C Q pt1 ks1 σ1):AK Try.prog C Q pt ks σ:=AK.go Qo hC ds e hφ h
abbrev QBg := List (Int×Int)
abbrev QMk := List QBg
abbrev QLL := List (List Int)
abbrev QSB := List (ByteArray×Bool)
theorem tt_ : True:=trivial
theorem an_ {a b:Prop}(x:a)(y:b):a∧b:=⟨x,y⟩
theorem ex_ {α:Sort _}{p:α→Prop}(w:α)(h:p w):∃x,p x:=⟨w,h⟩
end Go.Proofs
namespace Go.Vm
open Go Go.RowKit
noncomputable abbrev Dir.K (a b:List Nat):Dir:=.keep a b
noncomputable abbrev Dir.S (a:Nat)(b:V):Dir:=.say a b
noncomputable abbrev Dir.O (a:Nat)(b:Ob):Dir:=.sayO a b
noncomputable abbrev Dir.T:Dir:=.br true
noncomputable abbrev Dir.F:Dir:=.br false
noncomputable abbrev Dw.N:Dw:=.a .no none false
noncomputable abbrev V.I (n:Int):V:=.i .i64 n
end Go.Vm
namespace Go.Proofs
open Go Go.RowKit Go.Vm Go.Proofs.Try
theorem bg_ {α:Type}{c:Bool}{x y:Option α}{r:α}{G:Prop}(h:(bif c then x else y)=some r)(f:c=true→x=some r→G)(g:c=false→y=some r→G):G:=by
 cases c
 ·exact g rfl h
 exact f rfl h
theorem cb_ {a b:Bool}(h:a=b):V.b a=V.b b:=congrArg V.b h
theorem tc_ {a b:Bool}(h:a=b):True∧V.b a=V.b b:=⟨trivial,congrArg V.b h⟩
def Qox : Exit→Bool
 | .normal=>true
 | .ret=>true
 | _=>false
theorem d1_ {C:Ctx}{t:Nat}{r:V}{outs:List (Nat×Ob)}{σ:St}{e:Exit}(he:Qox e=true)(h:Go.Vm.look σ.fr t=some r)(hs:QcK σ.hp outs):AK Try.prog C (Qma Try.prog [.tmp t] (Qt r outs)) (.x e) [] σ:=by
 cases e<;>first | exact AK.done ⟨[r],⟨h,trivial⟩,Qas hs⟩|cases he
theorem d2_ {C:Ctx}{t u:Nat}{r s:V}{outs:List (Nat×Ob)}{σ:St}{e:Exit}(he:Qox e=true)(h:Go.Vm.look σ.fr t=some r)(k:Go.Vm.look σ.fr u=some s)(hs:QcK σ.hp outs):AK Try.prog C (Qma Try.prog [.tmp t,.tmp u] (Qt (.tup [r,s]) outs)) (.x e) [] σ:=by
 cases e<;>first | exact AK.done ⟨[r,s],⟨h,k,trivial⟩,Qas hs⟩|cases he
theorem tg_ {C:Ctx}{Q:Exit→St→Prop}{n:Nat}{pt pt1:Pt}{ks ks1:List Fr}{σ σ1:St}(hC:QcL Try.prog C n)(ds:List Dir)(e:Vm.go Try.prog C tab n ds pt ks σ True=some ⟨pt1,ks1,σ1,True⟩)(h:AK Try.prog C Q pt1 ks1 σ1):AK Try.prog C Q pt ks σ:=AK.go Qo hC ds e trivial h
theorem QbS {c:Bool}{β:Type}{f:Unit→Option β}{r:β}(h:(chk c).bind f=some r):c=true∧f ()=some r:=by
 obtain⟨_,k,h⟩:=Qf h
 exact⟨Qog k,h⟩
def QeP (b:Int)(a:Int):Option Qk:=
 some (Qk.mk b (QZ.mk 0 ([]:(List Int)) ([0]:List Int) ([0]:List Int)) (QO.mk 2 1 1 0 0) a)
theorem QeQ (b a){r}(h:QeP b a=some r):Qh prog 36 [.I b,.I a] [] (Qt (.agg (Qd r)) []):=by
 refine Qh.walk 12 func36 rfl rfl rfl fun C hC=>?_
 refine Qa hC [.n 9,.v .no [] (.agg (Qah (QO.mk 2 1 1 0 0))),.v (.bd []) [] (.sl 1 (([0]:List Int).map Qs)),.v (.bd []) [] (.sl 1 (([0]:List Int).map Qs)),.v .no [none,some 1,none,none] (.agg (Q4 (QZ.mk 0 ([]:(List Int)) ([0]:List Int) ([0]:List Int)))),.v .no [] (.agg (Qd (Qk.mk b (QZ.mk 0 ([]:(List Int)) ([0]:List Int) ([0]:List Int)) (QO.mk 2 1 1 0 0) a))),.n 1,.O 4 (.var (Qd (Qk.mk b (QZ.mk 0 ([]:(List Int)) ([0]:List Int) ([0]:List Int)) (QO.mk 2 1 1 0 0) a))),.n 3,.K [4] [4]] rfl ⟨⟨⟨⟨⟨⟨tt_,rfl⟩,rfl⟩,rfl⟩,rfl⟩,rfl⟩,rfl⟩ ?_
 cases h
 exact AK.done (ex_ [_] (an_ (an_ (ex_ _ (ex_ _ (an_ rfl (an_ rfl (Or.inl (an_ (Qo.ag rfl) (an_ (Qo.sz rfl) rfl))))))) tt_) (Qas tt_)))
def Qa1 (a:(List Int)):Option (List Int):=
 (chk (decide (([]:List Int).length+a.length≤4294967296))).bind fun _=>
 some (([]:List Int)++a)
theorem QbY (a){r}(h:Qa1 a=some r):Qh prog 82 [.sl 1 (a.map Qs)] [] (Qt (.own 600 r.length) [(600,.arr 1 (r.map Qs))]):=by
 refine Qh.walk 8 func82 rfl rfl rfl fun C hC=>?_
 unfold Qa1 at h
 refine tg_ hC [.n 9] rfl ?_
 refine AK.eqNil rfl rfl rfl (Qz hC.n rfl) rfl rfl QoK ?_ ?_
 ·intro b
  replace h:some ([]:List Int)=some r:=by simpa [chk,List.map_eq_nil_iff.1 b] using h
  refine Qa hC [.n 10,.adopt 2 600 1,.O 600 (.arr 1 (([]:List Int).map Qs)),.S 2 (.own 600 ([]:List Int).length)] rfl ⟨⟨tt_,rfl⟩,rfl⟩ ?_
  cases h
  exact d1_ rfl rfl ⟨rfl,tt_⟩
 obtain⟨c,h⟩:=QbS h
 refine Qa hC [.n 8,.O 5 (.arr 1 (([]:List Int).map Qs)),.S 5 (.own 5 ([]:List Int).length),.n 1,.app ((([]:List Int)++a).map Qs) (([]:List Int)++a).length,.n 4,.K [2] [5],.ren 5 600] rfl ⟨⟨⟨tt_,rfl⟩,rfl⟩,⟨Ql,Qcv c Ql,Qby,Qdy Ql⟩⟩ ?_
 cases h
 exact d1_ rfl rfl ⟨rfl,tt_⟩
def Qfk (a:Qk):Option Qk:=
 (Qa1 a.Mode.Vars).bind fun b=>
 (Qa1 a.Mode.Ins).bind fun c=>
 (Qa1 a.Mode.Outs).bind fun d=>
 some (Qk.mk a.Id (QZ.mk a.Mode.Task b c d) a.Batch a.Until)
theorem QfU (b){r}(h:Qfk b=some r):Qh prog 40 [.agg (Qd b)] [] (Qt (.agg (Qd r)) []):=by
 refine Qh.walk 22 func40 rfl rfl rfl fun C hC=>?_
 obtain⟨c,g,h⟩:=Qf h
 obtain⟨e,i,h⟩:=Qf h
 obtain⟨f,j,h⟩:=Qf h
 refine tg_ hC [.n 7,.K [1,2] [1,2]] rfl ?_
 refine AK.draw2 Qo hC mixed [.N,.N,.N,.a (.cd false [.d] 1 (c.map Qs) c.length) none false,.N,.N,.N,.a (.cd false [.d] 1 (e.map Qs) e.length) none false,.N,.N,.N,.a (.cd false [.d] 1 (f.map Qs) f.length) none false,.N,.N,.m .s,.N,.N,.m .s,.N,.N,.m .s] [] [] [1,2] [1,2] rfl rfl rfl ⟨⟨⟨tt_,⟨(QbY _ g),Ql⟩⟩,⟨(QbY _ i),Ql⟩⟩,⟨(QbY _ j),Ql⟩⟩ rfl (by kernel_rfl) rfl rfl rfl ?_
 refine Qa hC [.O 1 (.var (Qd (Qk.mk b.Id (QZ.mk b.Mode.Task c e f) b.Batch b.Until))),.n 3,.v .no [] (.agg (Qd (Qk.mk b.Id (QZ.mk b.Mode.Task c e f) b.Batch b.Until))),.n 1,.O 2 (.var (Qd (Qk.mk b.Id (QZ.mk b.Mode.Task c e f) b.Batch b.Until))),.n 3,.K [2] [2]] rfl ⟨⟨⟨tt_,rfl⟩,rfl⟩,rfl⟩ ?_
 cases h
 exact AK.done (ex_ [_] (an_ (an_ (ex_ _ (ex_ _ (an_ rfl (an_ rfl (Or.inl (an_ (Qo.ag rfl) (an_ (Qo.sz rfl) rfl))))))) tt_) (Qas tt_)))
def QeR (b:Int)(a:(List Qk)):Option ((Int×(List Qk))⊕(List Qk)):=
 some (.inl ((w64 (b+1)),a))
def Qg2 (f:(List Qk))(e:Int)(c:Int)(d:(List Qk)):Option ((Int×(List Qk))⊕(List Qk)):=
 bif (decide (c<(f.length:Int)))then
 (idx f c).bind fun a=>
 bif (a.Id != e)then
 (Qfk a).bind fun b=>
 (chk (decide (d.length+([b]:List Qk).length≤4294967296))).bind fun _=>
 QeR c (d++([b]:List Qk))
 else
 QeR c d
 else
 some (.inr d)
def Qg3 (a:(List Qk)):Option (List Qk):=
 some a
def Qgz (b:(List Qk))(a:Int):Option (List Qk):=
 (QH (fun st=>Qg2 b a st.1 st.2) (0,([]:List Qk))).bind (fun q=>Qg3 q)
theorem Qg4 (k a){r}(h:Qgz k a=some r):Qh prog 12 [.sl 11 (k.map Qd),.I a] [] (Qt (.own 600 r.length) [(600,.arr 11 (r.map Qd))]):=by
 refine Qh.walk 25 func12 rfl rfl rfl fun C hC=>?_
 refine Qa hC [.n 14,.o (.ln k.length),.n 4,.adopt 5 18 11,.O 18 (.arr 11 (([]:List Qk).map Qd)),.S 5 (.own 18 ([]:List Qk).length),.K [1,5,8,9,10] [18]] rfl ⟨⟨⟨tt_,Ql⟩,rfl⟩,(congrArg (fun n=>V.own 18 n) (by simp))⟩ ?_
 obtain⟨w,l,h⟩:=Qf h
 refine AK.loop (body:=(fun st=>Qg2 k a st.1 st.2)) (fun st σ=>σ=⟨[(1,.I a),(5,.own 18 st.2.length),(8,.sl 11 (k.map Qd)),(9,.I (k.length:Int)),(10,.I st.1)],[(18,.arr 11 (st.2.map Qd))]⟩) (fun q e σ=>e=.exit 0∧σ=⟨[(5,.own 18 q.length)],[(18,.arr 11 (q.map Qd))]⟩) l rfl ?_ ?_
 ·rintro ⟨t,u⟩ o σ rfl h
  refine tg_ hC [.n 6] rfl ?_
  refine bg_ h (fun b h=>Qa hC [.T,.n 2] rfl ⟨tt_,b⟩ ?_) fun b h=>Qa hC [.F,.n 2,.K [5] [18]] rfl ⟨tt_,b⟩ ?_
  ·refine AK.meet (fun σ=>∃g:(List Qk),σ=⟨[(1,.I a),(5,.own 18 g.length),(8,.sl 11 (k.map Qd)),(9,.I (k.length:Int)),(10,.I t)],[(18,.arr 11 (g.map Qd))]⟩∧QeR t g=some o) ?_ ?_
   ·obtain⟨i,m,h⟩:=Qf h
    refine Qa hC [.n 3,.o (.row (Qd i)),.v .no [] (.agg (Qd i)),.n 2,.O 7 (.var (Qd i)),.n 10] rfl ⟨⟨⟨tt_,(Qa5 m)⟩,rfl⟩,rfl⟩ ?_
    rcases QN h with⟨f,h⟩|⟨f,h⟩
    ·obtain⟨j,p,h⟩:=Qf h
     obtain⟨s,h⟩:=QbS h
     refine Qa hC [.T,.n 2,.v .no [] (.agg (Qd i)),.o (.c false [.d] (.agg (Qd j))),.v (.bd []) [] (.sl 11 (([j]:List Qk).map Qd)),.app ((u++([j]:List Qk)).map Qd) (u++([j]:List Qk)).length,.n 3,.K [1,5,8,9,10] [18]] rfl ⟨⟨⟨⟨⟨tt_,f⟩,rfl⟩,(QfU _ p)⟩,rfl⟩,⟨Ql,Qcv s Ql,Qby,Qdy Ql⟩⟩ ?_
     exact AK.met (ex_ _ (an_ rfl h))
    refine Qa hC [.F,.n 2,.K [1,5,8,9,10] [18]] rfl ⟨tt_,f⟩ ?_
    exact AK.met (ex_ _ (an_ rfl h))
   rintro σ ⟨g,rfl,h⟩
   refine tg_ hC [.n 4,.K [1,5,8,9,10] [18]] rfl ?_
   cases h
   exact QaP rfl rfl
  cases h
  exact QaL rfl (an_ rfl rfl)
 replace h:Qg3 w=some r:=h
 rintro e σ ⟨rfl,rfl⟩
 refine tg_ hC [.n 9,.K [4] [18],.ren 18 600] rfl ?_
 cases h
 exact d1_ rfl rfl ⟨rfl,tt_⟩
def Qiu (a:Qk)(b:Qk):Option Bool:=
 some (decide (b.Id<a.Id))
theorem QjB (c a){r}(h:Qiu c a=some r):Qh prog 38 [.agg (Qd c),.loc 607 0 0] [(607,.var (Qd a))] (Qt (.b r) [(607,.var (Qd a))]):=by
 refine Qh.walk 9 func38 rfl rfl rfl fun C hC=>?_
 refine tg_ hC [.n 17] rfl ?_
 cases h
 exact d1_ rfl rfl ⟨rfl,tt_⟩
def Qbj (c:(List Qk))(d:Qk)(a:Int):Option (Int⊕(Int⊕Unit)):=
 bif (decide (a<(c.length:Int)))then
 (idx c a).bind fun e=>
 (Qiu e d).bind fun b=>
 bif b then
 some (.inr (.inl a))
 else
 some (.inl (w64 (a+1)))
 else
 some (.inr (.inr ()))
def Qbk (a:Int):Option Int:=
 some a
def Qbl : Option Int:=
 some (-1)
def QbJ (a:(List Qk))(b:Qk):Option Int:=
 (QH (fun st=>Qbj a b st) 0).bind (Sum.elim (fun q=>Qbk q) (fun q=>Qbl))
theorem Qdk (c f){r}(h:QbJ c f=some r):Qh prog 37 [.own 607 c.length,.clo (.func 38) [] [.loc 608 0 0]] [(607,.arr 11 (c.map Qd)),(608,.var (Qd f))] (Qt (.I r) [(607,.arr 11 (c.map Qd)),(608,.var (Qd f))]):=by
 refine Qh.walk 19 func37 rfl rfl rfl fun C hC=>?_
 refine tg_ hC [.n 14,.K [0,1,7,8] [607,608]] rfl ?_
 obtain⟨l,i,h⟩:=Qf h
 refine AK.loop (body:=(fun st=>Qbj c f st)) (fun st σ=>σ=⟨[(0,.own 607 c.length),(1,.clo (.func 38) [] [.loc 608 0 0]),(7,.I (c.length:Int)),(8,.I st)],[(607,.arr 11 (c.map Qd)),(608,.var (Qd f))]⟩) (Sum.elim (fun q e σ=>e=.ret∧σ=⟨[(4,.I q)],[(607,.arr 11 (c.map Qd)),(608,.var (Qd f))]⟩) (fun q e σ=>e=.exit 0∧σ=⟨[],[(607,.arr 11 (c.map Qd)),(608,.var (Qd f))]⟩)) i rfl ?_ ?_
 ·rintro t o σ rfl h
  refine tg_ hC [.n 6] rfl ?_
  rcases QN h with⟨g,h⟩|⟨g,h⟩
  ·obtain⟨p,j,h⟩:=Qf h
   obtain⟨m,k,h⟩:=Qf h
   refine Qa hC [.T,.n 16,.v (.row (Qd p)) [] (.agg (Qd p)),.cm (.clo) [(607,608)] [(608,607)] [] [.d,.d] [(607,.var (Qd f))] (.b m),.n 2] rfl ⟨⟨⟨⟨⟨tt_,g⟩,(Qbr j rfl)⟩,(QT (QbH j).2)⟩,rfl⟩,(QjB _ _ k)⟩ ?_
   refine bg_ h (fun a h=>Qa hC [.T,.n 9,.K [4] [607,608]] rfl ⟨tt_,a⟩ ?_) fun a h=>Qa hC [.F,.n 7,.K [0,1,7,8] [607,608]] rfl ⟨tt_,a⟩ ?_
   ·cases h
    exact QfP rfl (an_ rfl rfl)
   cases h
   exact QaP rfl rfl
  refine Qa hC [.F,.n 2,.K [] [607,608]] rfl ⟨tt_,g⟩ ?_
  cases h
  exact QaL rfl (an_ rfl rfl)
 rcases l with(s | _)
 ·replace h:Qbk s=some r:=h
  rintro e σ ⟨rfl,rfl⟩
  refine tg_ hC [.n 2] rfl ?_
  cases h
  exact d1_ rfl rfl ⟨rfl,rfl,tt_⟩
 replace h:Qbl=some r:=h
 rintro e σ ⟨rfl,rfl⟩
 refine tg_ hC [.n 8] rfl ?_
 cases h
 exact d1_ rfl rfl ⟨rfl,rfl,tt_⟩
def Qa2 (l:(List Qk))(i:Int)(m:(List Qk)):Option (List Qk):=match m with
 | [u]=>(chk (decide (0≤i)&&decide (i.toNat≤l.length)&&decide (l.length+1≤4294967296))).bind fun _=>some (l.take i.toNat++u::l.drop i.toNat)
 | _=>none
theorem QdN (l i m){r}(h:Qa2 l i m=some r):Qh prog 39 [.own 605 l.length,.I i,.own 606 m.length] [(605,.arr 11 (l.map Qd)),(606,.arr 11 (m.map Qd))] (Qt (.own 605 r.length) [(605,.arr 11 (r.map Qd))]):=by
 unfold Qa2 at h
 split at h
 ·rename_i u
  obtain⟨_,a,h⟩:=Qf h
  replace a:=Qog a
  simp only [Qx,Qfw]at a
  cases h
  have:=Qlw QmA (l.map Qd) (Qd u) i a.1.1 (by rw [QgT];exact a.1.2) (by rw [QgT];exact a.2)
  rw [←List.map_take,←List.map_drop,←Qc1,←List.map_append,QgT,QgT]at this
  exact this
 cases h
def Qfl (a:Qk)(b:(List Qk))(at_6:Int):Option (List Qk):=
 (Qfk a).bind fun c=>
 (Qa2 b at_6 ([c]:List Qk)).bind fun d=>
 some d
def QfA (d:(List Qk))(a:Qk):Option (List Qk):=
 (Qgz d a.Id).bind fun b=>
 (QbJ b a).bind fun c=>
 bif (decide (c<0))then
 Qfl a b (b.length:Int)
 else
 Qfl a b c
theorem Qfm (l b){r}(h:QfA l b=some r):Qh prog 11 [.sl 11 (l.map Qd),.agg (Qd b)] [] (Qt (.own 600 r.length) [(600,.arr 11 (r.map Qd))]):=by
 refine Qh.walk 24 func11 rfl rfl rfl fun C hC=>?_
 obtain⟨e,f,h⟩:=Qf h
 obtain⟨p,g,h⟩:=Qf h
 refine Qa hC [.n 11,.o (.co false [.d,.d] 11 (e.map Qd) e.length),.n 7,.cm (.fn) [(607,10),(608,3)] [(10,607),(3,608)] [] [.d,.d] [(607,.arr 11 (e.map Qd)),(608,.var (Qd b))] (.I p),.n 3] rfl ⟨⟨tt_,⟨(Qg4 _ _ f),Ql,.inl rfl⟩⟩,(Qdk _ _ g)⟩ ?_
 refine AK.meet (fun σ=>∃at_6:Int,σ=⟨[(3,.loc 3 0 0),(5,.own 10 e.length),(6,.I at_6)],[(3,.var (Qd b)),(10,.arr 11 (e.map Qd))]⟩∧Qfl b e at_6=some r) ?_ ?_
 ·refine tg_ hC [.n 6] rfl ?_
  refine bg_ h (fun a h=>Qa hC [.T,.n 5,.K [3,5,6] [3,10]] rfl ⟨tt_,a⟩ ?_) fun a h=>Qa hC [.F,.n 1,.K [3,5,6] [3,10]] rfl ⟨tt_,a⟩ ?_
  ·exact AK.met (ex_ _ (an_ rfl h))
  exact AK.met (ex_ _ (an_ rfl h))
 rintro σ ⟨at_6,rfl,h⟩
 obtain⟨i,j,h⟩:=Qf h
 obtain⟨m,k,h⟩:=Qf h
 refine Qa hC [.n 4,.v .no [] (.agg (Qd b)),.o (.c false [.d] (.agg (Qd i))),.n 1,.O 22 (.arr 11 (([i]:List Qk).map Qd)),.S 22 (.own 22 ([i]:List Qk).length),.cm (.fn) [(605,10),(606,22)] [(10,605)] [10,22] [.d,.d,.d] [(605,.arr 11 (m.map Qd))] (.own 605 m.length),.n 4,.K [4] [10],.ren 10 600] rfl ⟨⟨⟨⟨⟨tt_,rfl⟩,(QfU _ j)⟩,rfl⟩,rfl⟩,(QdN _ _ _ k)⟩ ?_
 cases h
 exact d1_ rfl rfl ⟨rfl,tt_⟩
def QhG (c:Int)(a:Int)(b:(List Int)):Option ((Int×(List Int))⊕(List Int)):=
 bif (decide (0≤a))then
 (chk (decide (0≤(w64 (8*a))))).bind fun _=>
 (chk (decide (b.length+([(IntKind.u8.wrap (Qd5 .u64 (IntKind.u64.wrap c) (w64 (8*a))))]:List Int).length≤4294967296))).bind fun _=>
 some (.inl ((w64 (a-1)),(b++([(IntKind.u8.wrap (Qd5 .u64 (IntKind.u64.wrap c) (w64 (8*a))))]:List Int))))
 else
 some (.inr b)
def QhH (b:Int)(a:(List Int)):Option ((Int×(List Int))⊕(List Int)):=
 some (.inl ((w64 (b+1)),a))
def QhI (c:(List Int))(a:Int)(d:(List Int)):Option ((Int×(List Int))⊕(List Int)):=
 bif (decide (a<(c.length:Int)))then
 (idx c a).bind fun b=>
 (QH (fun st=>QhG b st.1 st.2) (7,d)).bind (fun q=>QhH a q)
 else
 some (.inr d)
def QhJ (a:(List Int)):Option (List Int):=
 some a
def Qhv (a:(List Int)):Option (List Int):=
 (QH (fun st=>QhI a st.1 st.2) (0,([]:List Int))).bind (fun q=>QhJ q)
theorem QhK (d){r}(h:Qhv d=some r):Qh prog 56 [.lit (.slice none 0 0),.sl 1 (d.map Qs)] [] (Qt (.own 600 r.length) [(600,.arr 1 (r.map Qp))]):=by
 refine Qh.walk 29 func56 rfl rfl rfl fun C hC=>?_
 refine Qa hC [.n 9,.o (.ln d.length),.n 4,.adopt 0 18 1,.O 18 (.arr 1 (([]:List Int).map Qp)),.S 0 (.own 18 ([]:List Int).length),.K [0,8,9,10] [18]] rfl ⟨⟨⟨tt_,Ql⟩,rfl⟩,(congrArg (fun n=>V.own 18 n) (by simp))⟩ ?_
 obtain⟨x,j,h⟩:=Qf h
 refine AK.loop (body:=(fun st=>QhI d st.1 st.2)) (fun st σ=>σ=⟨[(0,.own 18 st.2.length),(8,.sl 1 (d.map Qs)),(9,.I (d.length:Int)),(10,.I st.1)],[(18,.arr 1 (st.2.map Qp))]⟩) (fun q e σ=>e=.exit 0∧σ=⟨[(0,.own 18 q.length)],[(18,.arr 1 (q.map Qp))]⟩) j rfl ?_ ?_
 ·rintro ⟨t,y⟩ o σ rfl h
  refine tg_ hC [.n 6] rfl ?_
  rcases QN h with⟨f,h⟩|⟨f,h⟩
  ·obtain⟨a,k,h⟩:=Qf h
   refine Qa hC [.T,.n 6,.o (.row (Qs a)),.n 10,.K [0,6,7,8,9,10] [18]] rfl ⟨⟨tt_,f⟩,(Qa5 k)⟩ ?_
   obtain⟨u,l,h⟩:=Qf h
   refine AK.loop (body:=(fun st=>QhG a st.1 st.2)) (fun st σ=>σ=⟨[(0,.own 18 st.2.length),(6,.I a),(7,.I st.1),(8,.sl 1 (d.map Qs)),(9,.I (d.length:Int)),(10,.I t)],[(18,.arr 1 (st.2.map Qp))]⟩) (fun q e σ=>e=.exit 2∧σ=⟨[(0,.own 18 q.length),(8,.sl 1 (d.map Qs)),(9,.I (d.length:Int)),(10,.I t)],[(18,.arr 1 (q.map Qp))]⟩) l rfl ?_ ?_
   ·rintro ⟨b,m⟩ o σ rfl h
    refine tg_ hC [.n 7] rfl ?_
    rcases QN h with⟨c,h⟩|⟨c,h⟩
    ·obtain⟨p,h⟩:=QbS h
     obtain⟨s,h⟩:=QbS h
     refine Qa hC [.T,.n 7,.o (.any (.i .u64 (IntKind.u64.wrap a)) none),.n 2,.o (.any (.i .u64 (Qd5 .u64 (IntKind.u64.wrap a) (w64 (8*b)))) none),.o (.any (.i .u8 (IntKind.u8.wrap (Qd5 .u64 (IntKind.u64.wrap a) (w64 (8*b))))) none),.v (.bd []) [] (.sl 1 (([(IntKind.u8.wrap (Qd5 .u64 (IntKind.u64.wrap a) (w64 (8*b))))]:List Int).map Qp)),.app ((m++([(IntKind.u8.wrap (Qd5 .u64 (IntKind.u64.wrap a) (w64 (8*b))))]:List Int)).map Qp) (m++([(IntKind.u8.wrap (Qd5 .u64 (IntKind.u64.wrap a) (w64 (8*b))))]:List Int)).length,.n 9,.K [0,6,7,8,9,10] [18]] rfl ⟨⟨⟨⟨⟨⟨tt_,c⟩,(fun σ g w _=>Stp.convI rfl rfl (Qz hC.n rfl) (g _ _ rfl) QmB QfH)⟩,(fun σ g w _=>Stp.shr rfl rfl (Qz hC.n rfl) (g _ _ rfl) (g _ _ rfl) (QbO p))⟩,(fun σ g w _=>Stp.convI rfl rfl (Qz hC.n rfl) (g _ _ rfl) QfH QmC)⟩,rfl⟩,⟨Ql,Qcv s Ql,Qby,Qdy Ql⟩⟩ ?_
     cases h
     exact QaP rfl rfl
    refine Qa hC [.F,.n 2,.K [0,8,9,10] [18]] rfl ⟨tt_,c⟩ ?_
    cases h
    exact QaL rfl (an_ rfl rfl)
   replace h:QhH t u=some o:=h
   rintro e σ ⟨rfl,rfl⟩
   refine tg_ hC [.n 7,.K [0,8,9,10] [18]] rfl ?_
   cases h
   exact QaP rfl rfl
  refine Qa hC [.F,.n 2,.K [0] [18]] rfl ⟨tt_,f⟩ ?_
  cases h
  exact QaL rfl (an_ rfl rfl)
 replace h:QhJ x=some r:=h
 rintro e σ ⟨rfl,rfl⟩
 refine tg_ hC [.n 9,.K [4] [18],.ren 18 600] rfl ?_
 cases h
 exact d1_ rfl rfl ⟨rfl,tt_⟩
def QfV (c:Int)(a:Int)(b:(List Int)):Option ((Int×(List Int))⊕(List Int)):=
 bif (decide (0≤a))then
 (chk (decide (0≤(w64 (8*a))))).bind fun _=>
 (chk (decide (b.length+([(IntKind.u8.wrap (Qd5 .u64 (IntKind.u64.wrap c) (w64 (8*a))))]:List Int).length≤4294967296))).bind fun _=>
 some (.inl ((w64 (a-1)),(b++([(IntKind.u8.wrap (Qd5 .u64 (IntKind.u64.wrap c) (w64 (8*a))))]:List Int))))
 else
 some (.inr b)
def QfW (b:Int)(a:(List Int)):Option ((Int×(List Int))⊕(List Int)):=
 some (.inl ((w64 (b+1)),a))
def QfX (c:(List Int))(a:Int)(d:(List Int)):Option ((Int×(List Int))⊕(List Int)):=
 bif (decide (a<(c.length:Int)))then
 (idx c a).bind fun b=>
 (QH (fun st=>QfV b st.1 st.2) (7,d)).bind (fun q=>QfW a q)
 else
 some (.inr d)
def QfY (a:(List Int)):Option (List Int):=
 some a
def Qat (a:(List Int))(b:(List Int)):Option (List Int):=
 (QH (fun st=>QfX b st.1 st.2) (0,a)).bind (fun q=>QfY q)
theorem Qab (t f){r}(h:Qat t f=some r):Qh prog 56 [.own 605 t.length,.sl 1 (f.map Qs)] [(605,.arr 1 (t.map Qp))] (Qt (.own 605 r.length) [(605,.arr 1 (r.map Qp))]):=by
 refine Qh.walk 29 func56 rfl rfl rfl fun C hC=>?_
 refine Qa hC [.n 9,.o (.ln f.length),.n 4,.K [0,8,9,10] [605]] rfl ⟨tt_,Ql⟩ ?_
 obtain⟨y,j,h⟩:=Qf h
 refine AK.loop (body:=(fun st=>QfX f st.1 st.2)) (fun st σ=>σ=⟨[(0,.own 605 st.2.length),(8,.sl 1 (f.map Qs)),(9,.I (f.length:Int)),(10,.I st.1)],[(605,.arr 1 (st.2.map Qp))]⟩) (fun q e σ=>e=.exit 0∧σ=⟨[(0,.own 605 q.length)],[(605,.arr 1 (q.map Qp))]⟩) j rfl ?_ ?_
 ·rintro ⟨u,z⟩ o σ rfl h
  refine tg_ hC [.n 6] rfl ?_
  rcases QN h with⟨b,h⟩|⟨b,h⟩
  ·obtain⟨a,k,h⟩:=Qf h
   refine Qa hC [.T,.n 6,.o (.row (Qs a)),.n 10,.K [0,6,7,8,9,10] [605]] rfl ⟨⟨tt_,b⟩,(Qa5 k)⟩ ?_
   obtain⟨w,l,h⟩:=Qf h
   refine AK.loop (body:=(fun st=>QfV a st.1 st.2)) (fun st σ=>σ=⟨[(0,.own 605 st.2.length),(6,.I a),(7,.I st.1),(8,.sl 1 (f.map Qs)),(9,.I (f.length:Int)),(10,.I u)],[(605,.arr 1 (st.2.map Qp))]⟩) (fun q e σ=>e=.exit 2∧σ=⟨[(0,.own 605 q.length),(8,.sl 1 (f.map Qs)),(9,.I (f.length:Int)),(10,.I u)],[(605,.arr 1 (q.map Qp))]⟩) l rfl ?_ ?_
   ·rintro ⟨c,m⟩ o σ rfl h
    refine tg_ hC [.n 7] rfl ?_
    rcases QN h with⟨d,h⟩|⟨d,h⟩
    ·obtain⟨p,h⟩:=QbS h
     obtain⟨s,h⟩:=QbS h
     refine Qa hC [.T,.n 7,.o (.any (.i .u64 (IntKind.u64.wrap a)) none),.n 2,.o (.any (.i .u64 (Qd5 .u64 (IntKind.u64.wrap a) (w64 (8*c)))) none),.o (.any (.i .u8 (IntKind.u8.wrap (Qd5 .u64 (IntKind.u64.wrap a) (w64 (8*c))))) none),.v (.bd []) [] (.sl 1 (([(IntKind.u8.wrap (Qd5 .u64 (IntKind.u64.wrap a) (w64 (8*c))))]:List Int).map Qp)),.app ((m++([(IntKind.u8.wrap (Qd5 .u64 (IntKind.u64.wrap a) (w64 (8*c))))]:List Int)).map Qp) (m++([(IntKind.u8.wrap (Qd5 .u64 (IntKind.u64.wrap a) (w64 (8*c))))]:List Int)).length,.n 9,.K [0,6,7,8,9,10] [605]] rfl ⟨⟨⟨⟨⟨⟨tt_,d⟩,(fun σ g x _=>Stp.convI rfl rfl (Qz hC.n rfl) (g _ _ rfl) QmB QfH)⟩,(fun σ g x _=>Stp.shr rfl rfl (Qz hC.n rfl) (g _ _ rfl) (g _ _ rfl) (QbO p))⟩,(fun σ g x _=>Stp.convI rfl rfl (Qz hC.n rfl) (g _ _ rfl) QfH QmC)⟩,rfl⟩,⟨Ql,Qcv s Ql,Qby,Qdy Ql⟩⟩ ?_
     cases h
     exact QaP rfl rfl
    refine Qa hC [.F,.n 2,.K [0,8,9,10] [605]] rfl ⟨tt_,d⟩ ?_
    cases h
    exact QaL rfl (an_ rfl rfl)
   replace h:QfW u w=some o:=h
   rintro e σ ⟨rfl,rfl⟩
   refine tg_ hC [.n 7,.K [0,8,9,10] [605]] rfl ?_
   cases h
   exact QaP rfl rfl
  refine Qa hC [.F,.n 2,.K [0] [605]] rfl ⟨tt_,b⟩ ?_
  cases h
  exact QaL rfl (an_ rfl rfl)
 replace h:QfY y=some r:=h
 rintro e σ ⟨rfl,rfl⟩
 refine tg_ hC [.n 9] rfl ?_
 cases h
 exact d1_ rfl rfl ⟨rfl,tt_⟩
def Qjk (a:(List Int))(b:Int):Option (List Int):=
 (Qat a ([b]:List Int)).bind fun c=>
 some c
theorem Qks (a b){r}(h:Qjk a b=some r):Qh prog 95 [.own 605 a.length,.I b] [(605,.arr 1 (a.map Qp))] (Qt (.own 605 r.length) [(605,.arr 1 (r.map Qp))]):=by
 refine Qh.walk 9 func95 rfl rfl rfl fun C hC=>?_
 obtain⟨e,c,h⟩:=Qf h
 refine Qa hC [.n 9,.v (.bd []) [] (.sl 1 (([b]:List Int).map Qs)),.cm (.fn) [(605,605)] [(605,605)] [605] [.d,.d] [(605,.arr 1 (e.map Qp))] (.own 605 e.length),.n 4] rfl ⟨⟨tt_,rfl⟩,(Qab _ _ c)⟩ ?_
 cases h
 exact d1_ rfl rfl ⟨rfl,tt_⟩
def QfI (d:(List Int))(a:Int)(e:(List Int)):Option ((Int×(List Int))⊕(List Int)):=
 bif (decide (a<(d.length:Int)))then
 (idx d a).bind fun b=>
 (Qjk e b).bind fun c=>
 some (.inl ((w64 (a+1)),c))
 else
 some (.inr e)
def QfJ (a:(List Int)):Option (List Int):=
 some a
def QdA (b:(List Int))(a:(List Int)):Option (List Int):=
 (Qat b ([(a.length:Int)]:List Int)).bind fun c=>
 (QH (fun st=>QfI a st.1 st.2) (0,c)).bind (fun q=>QfJ q)
theorem QdO (j b){r}(h:QdA j b=some r):Qh prog 94 [.own 605 j.length,.sl 1 (b.map Qs),.clo (.func 95) [] []] [(605,.arr 1 (j.map Qp))] (Qt (.own 605 r.length) [(605,.arr 1 (r.map Qp))]):=by
 refine Qh.walk 26 func94 rfl rfl rfl fun C hC=>?_
 obtain⟨p,k,h⟩:=Qf h
 refine Qa hC [.n 9,.o (.ln b.length),.v (.bd []) [] (.sl 1 (([(b.length:Int)]:List Int).map Qs)),.cm (.fn) [(605,605)] [(605,605)] [605] [.d,.d] [(605,.arr 1 (p.map Qp))] (.own 605 p.length),.n 7,.o (.ln b.length),.n 4,.K [0,2,14,15,16] [605]] rfl ⟨⟨⟨⟨tt_,Ql⟩,rfl⟩,(Qab _ _ k)⟩,Ql⟩ ?_
 obtain⟨l,c,h⟩:=Qf h
 refine AK.loop (body:=(fun st=>QfI b st.1 st.2)) (fun st σ=>σ=⟨[(0,.own 605 st.2.length),(2,.clo (.func 95) [] []),(14,.sl 1 (b.map Qs)),(15,.I (b.length:Int)),(16,.I st.1)],[(605,.arr 1 (st.2.map Qp))]⟩) (fun q e σ=>e=.exit 0∧σ=⟨[(0,.own 605 q.length)],[(605,.arr 1 (q.map Qp))]⟩) c rfl ?_ ?_
 ·rintro ⟨s,t⟩ o σ rfl h
  refine tg_ hC [.n 6] rfl ?_
  rcases QN h with⟨a,h⟩|⟨a,h⟩
  ·obtain⟨m,f,h⟩:=Qf h
   obtain⟨g,i,h⟩:=Qf h
   refine Qa hC [.T,.n 6,.o (.row (Qs m)),.n 8,.cm (.clo) [(605,605)] [(605,605)] [605] [.d,.d] [(605,.arr 1 (g.map Qp))] (.own 605 g.length),.n 8,.K [0,2,14,15,16] [605]] rfl ⟨⟨⟨tt_,a⟩,(Qa5 f)⟩,(Qks _ _ i)⟩ ?_
   cases h
   exact QaP rfl rfl
  refine Qa hC [.F,.n 2,.K [0] [605]] rfl ⟨tt_,a⟩ ?_
  cases h
  exact QaL rfl (an_ rfl rfl)
 replace h:QfJ l=some r:=h
 rintro e σ ⟨rfl,rfl⟩
 refine tg_ hC [.n 9] rfl ?_
 cases h
 exact d1_ rfl rfl ⟨rfl,tt_⟩
def QgA (b:(List Int))(a:QZ):Option (List Int):=
 (Qat b ([a.Task]:List Int)).bind fun c=>
 (QdA c a.Vars).bind fun d=>
 (QdA d a.Ins).bind fun e=>
 (QdA e a.Outs).bind fun f=>
 some f
theorem Qg5 (b c){r}(h:QgA b c=some r):Qh prog 61 [.own 605 b.length,.agg (Q4 c)] [(605,.arr 1 (b.map Qp))] (Qt (.own 605 r.length) [(605,.arr 1 (r.map Qp))]):=by
 refine Qh.walk 19 func61 rfl rfl rfl fun C hC=>?_
 obtain⟨j,e,h⟩:=Qf h
 obtain⟨k,f,h⟩:=Qf h
 obtain⟨l,g,h⟩:=Qf h
 obtain⟨o,i,h⟩:=Qf h
 refine tg_ hC [.n 7,.K [0,3,4] [3,605]] rfl ?_
 refine AK.draw2 Qo hC mixed [.N,.N,.N,.a (.bd []) (some ([],.sl 1 (([c.Task]:List Int).map Qs))) false,.m (.cm (.fn) [(605,605)] [(605,605)] [605] [.d,.d] [(605,.arr 1 (j.map Qp))] (.own 605 j.length) []),.a .no none true,.a .no none true,.m (.cm (.fn) [(605,605)] [(605,605)] [605] [.d,.d,.d] [(605,.arr 1 (k.map Qp))] (.own 605 k.length) []),.a .no none true,.a .no none true,.m (.cm (.fn) [(605,605)] [(605,605)] [605] [.d,.d,.d] [(605,.arr 1 (l.map Qp))] (.own 605 l.length) []),.a .no none true,.a .no none true,.m (.cm (.fn) [(605,605)] [(605,605)] [605] [.d,.d,.d] [(605,.arr 1 (o.map Qp))] (.own 605 o.length) []),.m .s] [3,4] [3] [4] [605] rfl rfl rfl ⟨⟨⟨⟨⟨tt_,rfl⟩,⟨tt_,(Qab _ _ e)⟩⟩,⟨tt_,(QdO _ _ f)⟩⟩,⟨tt_,(QdO _ _ g)⟩⟩,⟨tt_,(QdO _ _ i)⟩⟩ rfl (by kernel_rfl) rfl rfl rfl ?_
 refine tg_ hC [.n 2] rfl ?_
 cases h
 exact d1_ rfl rfl ⟨rfl,tt_⟩
def QfK (a:QW):Option (List Int):=
 (Qhv ([a.Do,a.Id]:List Int)).bind fun b=>
 (QgA b a.Mode).bind fun c=>
 (Qat c ([a.Num]:List Int)).bind fun d=>
 some d
theorem QhL (b){r}(h:QfK b=some r):Qh prog 26 [.agg (QD b)] [] (Qt (.own 600 r.length) [(600,.arr 1 (r.map Qp))]):=by
 refine Qh.walk 16 func26 rfl rfl rfl fun C hC=>?_
 obtain⟨g,c,h⟩:=Qf h
 obtain⟨i,e,h⟩:=Qf h
 obtain⟨j,f,h⟩:=Qf h
 refine tg_ hC [.n 7,.K [1,2] [1]] rfl ?_
 refine AK.draw2 Qo hC mixed [.N,.N,.N,.N,.a (.bd []) (some ([],.sl 1 (([b.Do,b.Id]:List Int).map Qs))) false,.m (.cm (.fn) [] [(8,600)] [8] [.d,.d] [(600,.arr 1 (g.map Qp))] (.own 600 g.length) []),.a .no none true,.a .no (some ([],.agg (Q4 b.Mode))) true,.m (.cm (.fn) [(605,8)] [(8,605)] [8] [.d,.d] [(605,.arr 1 (i.map Qp))] (.own 605 i.length) []),.a .no none true,.a .no none true,.a (.bd []) (some ([],.sl 1 (([b.Num]:List Int).map Qs))) true,.m (.cm (.fn) [(605,8)] [(8,605)] [8] [.d,.d] [(605,.arr 1 (j.map Qp))] (.own 605 j.length) []),.m .s] [1,2] [1] [2] [8] rfl rfl rfl ⟨⟨⟨⟨⟨⟨tt_,rfl⟩,⟨tt_,(QhK _ c)⟩⟩,rfl⟩,⟨tt_,(Qg5 _ _ e)⟩⟩,rfl⟩,⟨tt_,(Qab _ _ f)⟩⟩ rfl (by kernel_rfl) rfl rfl rfl ?_
 refine tg_ hC [.n 2,.K [2] [8],.ren 8 600] rfl ?_
 cases h
 exact d1_ rfl rfl ⟨rfl,tt_⟩
def QcO (a:Qc):Option Qc:=
 bif a.bad then
 some (Qc.mk a.b true)
 else
 some (Qc.mk a.b (decide ((a.b.length:Int)<8)))
def QaM (e:Qc)(c:Int)(a:Int):Option ((Int×Int)⊕Int):=
 bif (decide (a<(((e.b.drop 0).take (8-0)).length:Int)))then
 (idx ((e.b.drop 0).take (8-0)) a).bind fun d=>
 some (.inl ((orI .u64 (QjA .u64 c 8) (IntKind.u64.wrap d)),(w64 (a+1))))
 else
 some (.inr c)
def QcP (a:Qc)(c:Int):Option (Int×Qc):=
 (chk (decide (0≤8)&&decide (8≤a.b.length)&&decide (a.b.length≤a.b.length))).bind fun _=>
 some ((w64 c),(Qc.mk ((a.b.drop 8).take (a.b.length-8)) a.bad))
def Qau (a:Qc):Option (Int×Qc):=
 bif a.bad then
 some (0,a)
 else
 (chk (decide (0≤8)&&decide (0≤8)&&decide (8≤a.b.length))).bind fun _=>
 (QH (fun st=>QaM a st.1 st.2) (0,0)).bind (fun q=>QcP a q)
def Qr (a:Qc):Option (Int×Qc):=
 (QcO a).bind (fun b=>Qau b)
theorem Qw (m){r}(h:Qr m=some r):Qh prog 98 [.loc 607 0 0] [(607,.var (Qb m))] (Qt (.I r.1) [(607,.var (Qb r.2))]):=by
 refine Qh.walk 51 func98 rfl rfl rfl fun C hC=>?_
 refine tg_ hC [.n 7] rfl ?_
 obtain⟨a,w,h⟩:=Qf h
 replace h:Qau a=some r:=h
 refine AK.meetX (fun σ=>σ=⟨[(0,.loc 607 0 0)],[(607,.var (Qb a))]⟩) ?_ ?_
 ·replace h:=w
  refine tg_ hC [.n 7] rfl ?_
  refine bg_ h (fun j h=>Qa hC [.S 11 (.b true),.n 10,.O 607 (.var (Qb (Qc.mk m.b true))),.n 1,.K [0] [607]] rfl ⟨(tc_ j),rfl⟩ ?_) fun j h=>Qa hC [.S 11 (.b false),.n 4,.o (.ln m.b.length),.n 5,.O 607 (.var (Qb (Qc.mk m.b (decide ((m.b.length:Int)<8))))),.n 1,.K [0] [607]] rfl ⟨⟨(tc_ j),Ql⟩,rfl⟩ ?_
  ·cases h
   exact AK.met rfl
  cases h
  exact AK.met rfl
 rintro σ rfl
 replace h:Qau a=some r:=h
 refine tg_ hC [.n 9] rfl ?_
 rcases QN h with⟨k,h⟩|⟨k,h⟩
 ·refine Qa hC [.T,.n 7] rfl ⟨tt_,k⟩ ?_
  cases h
  exact d1_ rfl rfl ⟨rfl,tt_⟩
 obtain⟨d,h⟩:=QbS h
 refine Qa hC [.F,.n 14,.o (.any (.sl 1 (((a.b.drop 0).take (8-0)).map Qp)) none),.o (.ln ((a.b.drop 0).take (8-0)).length),.n 4,.K [0,3,29,30,31] [607]] rfl ⟨⟨⟨tt_,k⟩,(fun σ c p _=>Stp.sliceD rfl rfl (Qz hC.n rfl) (c _ _ rfl) (Qo.es rfl) Bnd.no (Bnd.val (c _ _ rfl) (QbO (Qlk d)) rfl) (QbO (Qll d)) (Qct (QbO (Qoj d)) (Nat.le_of_eq Ql.symm)) Qmx)⟩,Ql⟩ ?_
 obtain⟨s,t,h⟩:=Qf h
 refine AK.loop (body:=(fun st=>QaM a st.1 st.2)) (fun st σ=>σ=⟨[(0,.loc 607 0 0),(3,.i .u64 st.1),(29,.sl 1 (((a.b.drop 0).take (8-0)).map Qp)),(30,.I (((a.b.drop 0).take (8-0)).length:Int)),(31,.I st.2)],[(607,.var (Qb a))]⟩) (fun q e σ=>e=.exit 0∧σ=⟨[(0,.loc 607 0 0),(3,.i .u64 q)],[(607,.var (Qb a))]⟩) t rfl ?_ ?_
 ·rintro ⟨u,x⟩ o σ rfl h
  refine tg_ hC [.n 6] rfl ?_
  rcases QN h with⟨f,h⟩|⟨f,h⟩
  ·obtain⟨l,v,h⟩:=Qf h
   refine Qa hC [.T,.n 6,.o (.row (Qp l)),.n 6,.o (.any (.i .u64 (QjA .u64 u 8)) none),.n 1,.o (.any (.i .u64 (IntKind.u64.wrap l)) none),.o (.any (.i .u64 (orI .u64 (QjA .u64 u 8) (IntKind.u64.wrap l))) none),.n 8,.K [0,3,29,30,31] [607]] rfl ⟨⟨⟨⟨⟨tt_,f⟩,(Qa5 v)⟩,(fun σ c p _=>Stp.shl rfl rfl (Qz hC.n rfl) (c _ _ rfl) (c _ _ rfl) (by decide))⟩,(fun σ c p _=>Stp.convI rfl rfl (Qz hC.n rfl) (c _ _ rfl) QmC QfH)⟩,(fun σ c p _=>Stp.orB rfl rfl (Qz hC.n rfl) (c _ _ rfl) (c _ _ rfl))⟩ ?_
   cases h
   exact QaP rfl rfl
  refine Qa hC [.F,.n 2,.K [0,3] [607]] rfl ⟨tt_,f⟩ ?_
  cases h
  exact QaL rfl (an_ rfl rfl)
 replace h:QcP a s=some r:=h
 rintro e σ ⟨rfl,rfl⟩
 obtain⟨g,h⟩:=QbS h
 refine Qa hC [.n 9,.o (.any (.sl 1 (((a.b.drop 8).take (a.b.length-8)).map Qp)) none),.n 3,.O 607 (.var (Qb (Qc.mk ((a.b.drop 8).take (a.b.length-8)) a.bad))),.n 5,.o (.any (.I (w64 s)) none),.n 4] rfl ⟨⟨⟨tt_,(fun σ c p _=>Stp.sliceD rfl rfl (Qz hC.n rfl) (c _ _ rfl) (Qo.es rfl) (Bnd.val (c _ _ rfl) (QbO (Qlk g)) rfl) (Bnd.none_ Ql) (QbO (Qll g)) (Nat.le_of_eq Ql.symm) Qmx)⟩,rfl⟩,(fun σ c p _=>Stp.convI rfl rfl (Qz hC.n rfl) (c _ _ rfl) QfH QmB)⟩ ?_
 cases h
 exact d1_ rfl rfl ⟨rfl,tt_⟩
def Qdp (c:Qc)(f:Int)(g:Int)(d:Int)(e:Int):Option (Qc×QW):=
 (Qr c).bind fun b=>
 (Qr b.2).bind fun a=>
 some (a.2,(QW.mk b.1 a.1 (QZ.mk d ([]:List Int) ([]:List Int) ([]:List Int)) e))
theorem Qhw (m p j c e){r}(h:Qdp m p j c e=some r):Qh prog 67 [.loc 607 0 0,.own 608 2] [(607,.var (Qb m)),(608,.var [.loc 609 0 0,.loc 609 0 1]),(609,.var [.I p,.I j,.I c,.lit (.slice none 0 0),.lit (.slice none 0 0),.lit (.slice none 0 0),.I e])] (Qt (.tup []) [(607,.var (Qb r.1)),(608,.var [.loc 609 0 0,.loc 609 0 1]),(609,.var (QD r.2))]):=by
 refine Qh.walk 17 func67 rfl rfl rfl fun C hC=>?_
 refine tg_ hC [.n 8] rfl ?_
 refine AK.loopN 3 (AK.rnd ?_)
 obtain⟨f,k,h⟩:=Qf h
 refine Qa hC [.n 2,.v .no [] (.b true),.n 10,.o (.any (.loc 608 0 0) none),.n 7,.cm (.fn) [(607,607)] [(607,607)] [] [.d] [(607,.var (Qb f.2))] (.I f.1),.n 2,.O 609 (.var [.I f.1,.I j,.I c,.lit (.slice none 0 0),.lit (.slice none 0 0),.lit (.slice none 0 0),.I e]),.n 4,.v .no [] (.I 1),.n 2] rfl ⟨⟨⟨⟨⟨tt_,rfl⟩,(fun σ g l _=>Stp.idxV rfl rfl (Qz hC.n rfl) (g _ _ rfl) (g _ _ rfl) (Qo.es rfl) (l _ _ rfl) (by decide))⟩,(Qw _ k)⟩,rfl⟩,rfl⟩ ?_
 refine AK.met (AK.rnd ?_)
 obtain⟨a,i,h⟩:=Qf h
 refine Qa hC [.n 2,.v .no [] (.b true),.n 10,.o (.any (.loc 608 0 1) none),.n 7,.cm (.fn) [(607,607)] [(607,607)] [] [.d] [(607,.var (Qb a.2))] (.I a.1),.n 2,.O 609 (.var [.I f.1,.I a.1,.I c,.lit (.slice none 0 0),.lit (.slice none 0 0),.lit (.slice none 0 0),.I e]),.n 4,.v .no [] (.I 2),.n 2] rfl ⟨⟨⟨⟨⟨tt_,rfl⟩,(fun σ g l _=>Stp.idxV rfl rfl (Qz hC.n rfl) (g _ _ rfl) (g _ _ rfl) (Qo.es rfl) (l _ _ rfl) (by decide))⟩,(Qw _ i)⟩,rfl⟩,rfl⟩ ?_
 refine AK.met (AK.rnd ?_)
 refine Qa hC [.n 2,.v .no [] (.b false),.n 8,.denilO 609 [none,none,none,some 1,some 1,some 1,none],.O 609 (.var (QD (QW.mk f.1 a.1 (QZ.mk c ([]:List Int) ([]:List Int) ([]:List Int)) e))),.K [] [607,608,609]] rfl ⟨⟨tt_,rfl⟩,rfl⟩ ?_
 cases h
 refine AK.done ?_
 exact ex_ [] (an_ tt_ (Qas ⟨rfl,rfl,rfl,tt_⟩))
def Qcy (b:Qc)(c:Int):Option (Qc×QZ):=
 (Qr b).bind fun a=>
 some (a.2,(QZ.mk a.1 ([]:List Int) ([]:List Int) ([]:List Int)))
theorem Qga (e f){r}(h:Qcy e f=some r):Qh prog 67 [.loc 607 0 0,.own 608 1] [(607,.var (Qb e)),(608,.var [.loc 609 0 0]),(609,.var [.I f,.lit (.slice none 0 0),.lit (.slice none 0 0),.lit (.slice none 0 0)])] (Qt (.tup []) [(607,.var (Qb r.1)),(608,.var [.loc 609 0 0]),(609,.var (Q4 r.2))]):=by
 refine Qh.walk 17 func67 rfl rfl rfl fun C hC=>?_
 refine tg_ hC [.n 8] rfl ?_
 refine AK.loopN 2 (AK.rnd ?_)
 obtain⟨a,c,h⟩:=Qf h
 refine Qa hC [.n 2,.v .no [] (.b true),.n 10,.o (.any (.loc 608 0 0) none),.n 7,.cm (.fn) [(607,607)] [(607,607)] [] [.d] [(607,.var (Qb a.2))] (.I a.1),.n 2,.O 609 (.var [.I a.1,.lit (.slice none 0 0),.lit (.slice none 0 0),.lit (.slice none 0 0)]),.n 4,.v .no [] (.I 1),.n 2] rfl ⟨⟨⟨⟨⟨tt_,rfl⟩,(fun σ g i _=>Stp.idxV rfl rfl (Qz hC.n rfl) (g _ _ rfl) (g _ _ rfl) (Qo.es rfl) (i _ _ rfl) (by decide))⟩,(Qw _ c)⟩,rfl⟩,rfl⟩ ?_
 refine AK.met (AK.rnd ?_)
 refine Qa hC [.n 2,.v .no [] (.b false),.n 8,.denilO 609 [none,some 1,some 1,some 1],.O 609 (.var (Q4 (QZ.mk a.1 ([]:List Int) ([]:List Int) ([]:List Int)))),.K [] [607,608,609]] rfl ⟨⟨tt_,rfl⟩,rfl⟩ ?_
 cases h
 refine AK.done ?_
 exact ex_ [] (an_ tt_ (Qas ⟨rfl,rfl,rfl,tt_⟩))
def Qfa (a:(Int×Qc)):Option Qc:=
 bif a.2.bad then
 some (Qc.mk a.2.b true)
 else
 some (Qc.mk a.2.b (decide (a.1<0)))
def QaI (e:(Int×Qc))(d:Int)(a:Qc)(b:(List Int)):Option ((Int×Qc×(List Int))⊕((List Int)×Qc)):=
 bif ((decide (d<e.1))&&(!a.bad))then
 (Qr a).bind fun c=>
 (chk (decide (b.length+([c.1]:List Int).length≤4294967296))).bind fun _=>
 some (.inl ((w64 (d+1)),c.2,(b++([c.1]:List Int))))
 else
 some (.inr (b,a))
def Qfb (a:(List Int))(b:Qc):Option ((List Int)×Qc):=
 some (a,b)
def Qdq (a:(Int×Qc))(b:Qc):Option ((List Int)×Qc):=
 (QH (fun st=>QaI a st.1 st.2.1 st.2.2) (0,b,([]:List Int))).bind (fun q=>Qfb q.1 q.2)
def Qbz (b:Qc):Option ((List Int)×Qc):=
 (Qr b).bind fun a=>
 (Qfa a).bind (fun c=>Qdq a c)
theorem Qdr (A){r}(h:Qbz A=some r):Qh prog 102 [.loc 607 0 0,.clo (.func 98) [] []] [(607,.var (Qb A))] (Qt (.own 600 r.1.length) [(600,.arr 1 (r.1.map Qs)),(607,.var (Qb r.2))]):=by
 refine Qh.walk 40 func102 rfl rfl rfl fun C hC=>?_
 obtain⟨c,t,h⟩:=Qf h
 refine Qa hC [.n 8,.cm (.fn) [(607,607)] [(607,607)] [] [.d] [(607,.var (Qb c.2))] (.I c.1),.n 4] rfl ⟨tt_,(Qw _ t)⟩ ?_
 obtain⟨u,w,h⟩:=Qf h
 replace h:Qdq c u=some r:=h
 refine AK.meetX (fun σ=>σ=⟨[(0,.loc 607 0 0),(1,.clo (.func 98) [] []),(5,.I c.1)],[(607,.var (Qb u))]⟩) ?_ ?_
 ·replace h:=w
  refine tg_ hC [.n 7] rfl ?_
  refine bg_ h (fun k h=>Qa hC [.S 15 (.b true),.n 6,.O 607 (.var (Qb (Qc.mk c.2.b true))),.n 1,.K [0,1,5] [607]] rfl ⟨(tc_ k),rfl⟩ ?_) fun k h=>Qa hC [.S 15 (.b false),.n 6,.O 607 (.var (Qb (Qc.mk c.2.b (decide (c.1<0))))),.n 1,.K [0,1,5] [607]] rfl ⟨(tc_ k),rfl⟩ ?_
  ·cases h
   exact AK.met rfl
  cases h
  exact AK.met rfl
 rintro σ rfl
 replace h:Qdq c u=some r:=h
 refine Qa hC [.n 13,.adopt 6 33 1,.O 33 (.arr 1 (([]:List Int).map Qs)),.S 6 (.own 33 ([]:List Int).length),.K [0,1,5,6,7] [33,607]] rfl ⟨⟨tt_,rfl⟩,(congrArg (fun n=>V.own 33 n) (by simp))⟩ ?_
 obtain⟨x,l,h⟩:=Qf h
 refine AK.loop (body:=(fun st=>QaI c st.1 st.2.1 st.2.2)) (fun st σ=>σ=⟨[(0,.loc 607 0 0),(1,.clo (.func 98) [] []),(5,.I c.1),(6,.own 33 st.2.2.length),(7,.I st.1)],[(33,.arr 1 (st.2.2.map Qs)),(607,.var (Qb st.2.1))]⟩) (fun q e σ=>e=.exit 0∧σ=⟨[(6,.own 33 q.1.length)],[(33,.arr 1 (q.1.map Qs)),(607,.var (Qb q.2))]⟩) l rfl ?_ ?_
 ·rintro ⟨m,i,j⟩ o σ rfl h
  refine tg_ hC [.n 2] rfl ?_
  refine AK.meetX (fun σ=>σ=⟨[(0,.loc 607 0 0),(1,.clo (.func 98) [] []),(5,.I c.1),(6,.own 33 j.length),(7,.I m),(30,.b ((decide (m<c.1))&&(!i.bad)))],[(33,.arr 1 (j.map Qs)),(607,.var (Qb i))]⟩) ?_ ?_
  ·refine tg_ hC [.n 5] rfl ?_
   rcases Qbt (decide (m<c.1))with a | a
   ·refine Qa hC [.S 24 (.b true),.n 7,.S 30 (.b ((decide (m<c.1))&&(!i.bad))),.K [0,1,5,6,7,30] [33,607]] rfl ⟨(tc_ a),(congrArg V.b (Qgq a rfl))⟩ ?_
    exact AK.met rfl
   refine Qa hC [.S 24 (.b false),.n 7,.S 30 (.b ((decide (m<c.1))&&(!i.bad))),.K [0,1,5,6,7,30] [33,607]] rfl ⟨(tc_ a),(congrArg V.b (Qgr a rfl))⟩ ?_
   exact AK.met rfl
  rintro σ rfl
  refine tg_ hC [.n 1] rfl ?_
  rcases QN h with⟨f,h⟩|⟨f,h⟩
  ·obtain⟨g,p,h⟩:=Qf h
   obtain⟨s,h⟩:=QbS h
   refine Qa hC [.T,.n 8,.cm (.clo) [(607,607)] [(607,607)] [] [.d] [(607,.var (Qb g.2))] (.I g.1),.v (.bd []) [] (.sl 1 (([g.1]:List Int).map Qs)),.app ((j++([g.1]:List Int)).map Qs) (j++([g.1]:List Int)).length,.n 9,.K [0,1,5,6,7] [33,607]] rfl ⟨⟨⟨⟨tt_,f⟩,(Qw _ p)⟩,rfl⟩,⟨Ql,Qcv s Ql,Qby,Qdy Ql⟩⟩ ?_
   cases h
   exact QaP rfl rfl
  refine Qa hC [.F,.n 2,.K [6] [33,607]] rfl ⟨tt_,f⟩ ?_
  cases h
  exact QaL rfl (an_ rfl rfl)
 obtain⟨y,z⟩:=x
 replace h:Qfb y z=some r:=h
 rintro e σ ⟨rfl,rfl⟩
 refine tg_ hC [.n 9,.K [4] [33,607],.ren 33 600] rfl ?_
 cases h
 exact d1_ rfl rfl ⟨rfl,rfl,tt_⟩
def QbA (e:Qc):Option (QZ×Qc):=
 (Qcy e 0).bind fun a=>
 (Qbz a.1).bind fun b=>
 (Qbz b.2).bind fun c=>
 (Qbz c.2).bind fun d=>
 some ((QZ.mk a.2.Task b.1 c.1 d.1),d.2)
theorem Qfc (p){r}(h:QbA p=some r):Qh prog 76 [.loc 607 0 0] [(607,.var (Qb p))] (Qt (.agg (Q4 r.1)) [(607,.var (Qb r.2))]):=by
 refine Qh.walk 25 func76 rfl rfl rfl fun C hC=>?_
 obtain⟨c,j,h⟩:=Qf h
 refine Qa hC [.n 14,.o (.any (.own 8 1) (some (.var [.loc 3 0 0]))),.cm (.fn) [(607,607),(608,8),(609,3)] [(607,607),(8,608),(3,609)] [] [.d,.d] [(607,.var (Qb c.1)),(608,.var [.loc 609 0 0]),(609,.var (Q4 c.2))] (.tup []),.n 8,.o (.any (.own 13 3) (some (.var [.loc 3 0 1,.loc 3 0 2,.loc 3 0 3]))),.n 5] rfl ⟨⟨⟨tt_,(fun σ a f hf=>Stp.buildAny rfl rfl (Qz hC.n rfl) (Qo.es rfl) Qil rfl (by decide) (by decide) (Qb8 a rfl) rfl rfl (hf rfl))⟩,(Qga _ _ j)⟩,(fun σ a f hf=>Stp.buildAny rfl rfl (Qz hC.n rfl) (Qo.es rfl) Qm7 rfl (by decide) (by decide) (Qb8 a rfl) rfl rfl (hf rfl))⟩ ?_
 refine AK.loopN 4 (AK.rnd ?_)
 obtain⟨e,k,h⟩:=Qf h
 refine Qa hC [.n 2,.v .no [] (.b true),.n 10,.o (.any (.loc 13 0 0) none),.n 7,.cm (.fn) [(607,607)] [(21,600),(607,607)] [] [.d,.d] [(600,.arr 1 (e.1.map Qs)),(607,.var (Qb e.2))] (.own 600 e.1.length),.n 2,.O 3 (.var [.I c.2.Task,.own 21 e.1.length,.sl 1 (c.2.Ins.map Qs),.sl 1 (c.2.Outs.map Qs)]),.n 4,.v .no [] (.I 1),.n 2] rfl ⟨⟨⟨⟨⟨tt_,rfl⟩,(fun σ a f _=>Stp.idxV rfl rfl (Qz hC.n rfl) (a _ _ rfl) (a _ _ rfl) (Qo.es rfl) (f _ _ rfl) (by decide))⟩,(Qdr _ k)⟩,rfl⟩,rfl⟩ ?_
 refine AK.met (AK.rnd ?_)
 obtain⟨g,l,h⟩:=Qf h
 refine Qa hC [.n 2,.v .no [] (.b true),.n 10,.o (.any (.loc 13 0 1) none),.n 7,.cm (.fn) [(607,607)] [(602,600),(607,607)] [] [.d,.d] [(600,.arr 1 (g.1.map Qs)),(607,.var (Qb g.2))] (.own 600 g.1.length),.n 2,.O 3 (.var [.I c.2.Task,.own 21 e.1.length,.own 602 g.1.length,.sl 1 (c.2.Outs.map Qs)]),.n 4,.v .no [] (.I 2),.n 2] rfl ⟨⟨⟨⟨⟨tt_,rfl⟩,(fun σ a f _=>Stp.idxV rfl rfl (Qz hC.n rfl) (a _ _ rfl) (a _ _ rfl) (Qo.es rfl) (f _ _ rfl) (by decide))⟩,(Qdr _ l)⟩,rfl⟩,rfl⟩ ?_
 refine AK.met (AK.rnd ?_)
 obtain⟨i,m,h⟩:=Qf h
 refine Qa hC [.n 2,.v .no [] (.b true),.n 10,.o (.any (.loc 13 0 2) none),.n 7,.cm (.fn) [(607,607)] [(603,600),(607,607)] [] [.d,.d] [(600,.arr 1 (i.1.map Qs)),(607,.var (Qb i.2))] (.own 600 i.1.length),.n 2,.O 3 (.var [.I c.2.Task,.own 21 e.1.length,.own 602 g.1.length,.own 603 i.1.length]),.n 4,.v .no [] (.I 3),.n 2] rfl ⟨⟨⟨⟨⟨tt_,rfl⟩,(fun σ a f _=>Stp.idxV rfl rfl (Qz hC.n rfl) (a _ _ rfl) (a _ _ rfl) (Qo.es rfl) (f _ _ rfl) (by decide))⟩,(Qdr _ m)⟩,rfl⟩,rfl⟩ ?_
 refine AK.met (AK.rnd ?_)
 refine Qa hC [.n 2,.v .no [] (.b false),.n 13,.O 2 (.var [.I c.2.Task,.own 21 e.1.length,.own 602 g.1.length,.own 603 i.1.length]),.n 3,.frz 21 (e.1.map Qs) [] [2],.frz 602 (g.1.map Qs) [] [2],.frz 603 (i.1.map Qs) [] [2],.K [2] [2,607]] rfl ⟨⟨⟨⟨⟨tt_,rfl⟩,rfl⟩,⟨tt_,⟨(Qbc Ql),⟨tt_,⟨tt_,tt_⟩⟩⟩⟩⟩,⟨tt_,⟨(Qbc Ql),⟨tt_,tt_⟩⟩⟩⟩,⟨tt_,⟨(Qbc Ql),tt_⟩⟩⟩ ?_
 cases h
 exact AK.done (ex_ [_] (an_ (an_ (ex_ _ (ex_ _ (an_ rfl (an_ rfl (Or.inl (an_ (Qo.ag rfl) (an_ (Qo.sz rfl) rfl))))))) tt_) (Qas ⟨rfl,tt_⟩)))
def Qcz (c:Qc)(a:QW):Option (Qc×QW):=
 (Qr c).bind fun b=>
 some (b.2,(QW.mk a.Do a.Id a.Mode b.1))
theorem Qgb (f a){r}(h:Qcz f a=some r):Qh prog 67 [.loc 607 0 0,.own 608 1] [(607,.var (Qb f)),(608,.var [.loc 609 0 6]),(609,.var (QD a))] (Qt (.tup []) [(607,.var (Qb r.1)),(608,.var [.loc 609 0 6]),(609,.var (QD r.2))]):=by
 refine Qh.walk 17 func67 rfl rfl rfl fun C hC=>?_
 refine tg_ hC [.n 8] rfl ?_
 refine AK.loopN 2 (AK.rnd ?_)
 obtain⟨c,e,h⟩:=Qf h
 refine Qa hC [.n 2,.v .no [] (.b true),.n 10,.o (.any (.loc 608 0 0) none),.n 7,.cm (.fn) [(607,607)] [(607,607)] [] [.d] [(607,.var (Qb c.2))] (.I c.1),.n 2,.O 609 (.var (QD (QW.mk a.Do a.Id a.Mode c.1))),.n 4,.v .no [] (.I 1),.n 2] rfl ⟨⟨⟨⟨⟨tt_,rfl⟩,(fun σ g i _=>Stp.idxV rfl rfl (Qz hC.n rfl) (g _ _ rfl) (g _ _ rfl) (Qo.es rfl) (i _ _ rfl) (by decide))⟩,(Qw _ e)⟩,rfl⟩,rfl⟩ ?_
 refine AK.met (AK.rnd ?_)
 refine Qa hC [.n 2,.v .no [] (.b false),.n 8,.K [] [607,608,609]] rfl ⟨tt_,rfl⟩ ?_
 cases h
 refine AK.done ?_
 exact ex_ [] (an_ tt_ (Qas ⟨rfl,rfl,rfl,tt_⟩))
def Qaj (a:Qc)(c:QW):Option (Int×QW):=
 bif (a.bad||(decide (0<(a.b.length:Int))))then
 some (4,(QW.mk 0 0 (QZ.mk 0 ([]:(List Int)) ([]:(List Int)) ([]:(List Int))) 0))
 else
 some (0,c)
theorem Qgc (a e){r}(h:Qaj a e=some r):Qh prog 77 [.loc 607 0 0,.agg (QD e)] [(607,.var (Qb a))] (Qt (.tup [.agg (QD r.2),.I r.1]) [(607,.var (Qb a))]):=by
 refine Qh.walk 21 func77 rfl rfl rfl fun C hC=>?_
 refine tg_ hC [.n 9] rfl ?_
 refine AK.meetX (fun σ=>σ=⟨[(3,.loc 3 0 0),(4,.loc 4 0 0),(18,.b (a.bad||(decide (0<(a.b.length:Int)))))],[(3,.var (QD e)),(4,.var [.I 0,.I 0,.I 0,.lit (.slice none 0 0),.lit (.slice none 0 0),.lit (.slice none 0 0),.I 0]),(607,.var (Qb a))]⟩) ?_ ?_
 ·refine tg_ hC [.n 6] rfl ?_
  rcases Qbt a.bad with c | c
  ·refine Qa hC [.S 11 (.b true),.n 8,.S 18 (.b (a.bad||(decide (0<(a.b.length:Int))))),.K [3,4,18] [3,4,607]] rfl ⟨(tc_ c),(congrArg V.b (orT c rfl))⟩ ?_
   exact AK.met rfl
  refine Qa hC [.S 11 (.b false),.n 4,.o (.ln a.b.length),.n 3,.S 18 (.b (a.bad||(decide (0<(a.b.length:Int))))),.K [3,4,18] [3,4,607]] rfl ⟨⟨(tc_ c),Ql⟩,(congrArg V.b (orF c rfl))⟩ ?_
  exact AK.met rfl
 rintro σ rfl
 refine tg_ hC [.n 1] rfl ?_
 refine bg_ h (fun d h=>Qa hC [.T,.n 7,.v .no [none,none,none,some 1,some 1,some 1,none] (.agg (QD (QW.mk 0 0 (QZ.mk 0 ([]:(List Int)) ([]:(List Int)) ([]:(List Int))) 0))),.n 1,.O 4 (.var (QD (QW.mk 0 0 (QZ.mk 0 ([]:(List Int)) ([]:(List Int)) ([]:(List Int))) 0))),.n 5,.K [4,5] [4,607]] rfl ⟨⟨⟨tt_,d⟩,rfl⟩,rfl⟩ ?_) fun d h=>Qa hC [.F,.n 4,.v .no [] (.agg (QD e)),.n 1,.O 4 (.var (QD e)),.n 4,.K [4,5] [4,607]] rfl ⟨⟨⟨tt_,d⟩,rfl⟩,rfl⟩ ?_
 ·cases h
  exact AK.done (ex_ [_,_] (an_ (an_ (ex_ _ (ex_ _ (an_ rfl (an_ rfl (Or.inl (an_ (Qo.ag rfl) (an_ (Qo.sz rfl) rfl))))))) (an_ rfl tt_)) (Qas ⟨rfl,tt_⟩)))
 cases h
 exact AK.done (ex_ [_,_] (an_ (an_ (ex_ _ (ex_ _ (an_ rfl (an_ rfl (Or.inl (an_ (Qo.ag rfl) (an_ (Qo.sz rfl) rfl))))))) (an_ rfl tt_)) (Qas ⟨rfl,tt_⟩)))
def QaQ (e:(List Int)):Option (Int×QW):=
 (Qdp (Qc.mk e false) 0 0 0 0).bind fun a=>
 (QbA a.1).bind fun b=>
 (Qcz b.2 (QW.mk a.2.Do a.2.Id b.1 a.2.Num)).bind fun c=>
 (Qaj c.1 c.2).bind fun d=>
 some (d.1,d.2)
theorem QcQ (c){r}(h:QaQ c=some r):Qh prog 32 [.sl 1 (c.map Qp)] [] (Qt (.tup [.agg (QD r.2),.I r.1]) []):=by
 refine Qh.walk 26 func32 rfl rfl rfl fun C hC=>?_
 obtain⟨a,e,h⟩:=Qf h
 obtain⟨f,g,h⟩:=Qf h
 obtain⟨b,i,h⟩:=Qf h
 obtain⟨j,k,h⟩:=Qf h
 refine Qa hC [.n 9,.v .no [] (.agg (Qb (Qc.mk c false))),.n 14,.o (.any (.own 12 2) (some (.var [.loc 5 0 0,.loc 5 0 1]))),.cm (.fn) [(607,8),(608,12),(609,5)] [(8,607),(12,608),(5,609)] [] [.d,.d] [(607,.var (Qb a.1)),(608,.var [.loc 609 0 0,.loc 609 0 1]),(609,.var (QD a.2))] (.tup []),.n 5,.cm (.fn) [(607,8)] [(8,607)] [] [.d] [(607,.var (Qb f.2))] (.agg (Q4 f.1)),.n 2,.O 5 (.var (QD (QW.mk a.2.Do a.2.Id f.1 a.2.Num))),.n 6,.o (.any (.own 19 1) (some (.var [.loc 5 0 6]))),.cm (.fn) [(607,8),(608,19),(609,5)] [(8,607),(19,608),(5,609)] [] [.d,.d] [(607,.var (Qb b.1)),(608,.var [.loc 609 0 6]),(609,.var (QD b.2))] (.tup []),.n 5,.v .no [] (.agg (QD b.2)),.cm (.fn) [(607,8)] [(8,607)] [] [.d,.d] [(607,.var (Qb b.1))] (.tup [.agg (QD j.2),.I j.1]),.n 3,.O 2 (.var (QD j.2)),.n 4,.K [2,3] [2]] rfl ⟨⟨⟨⟨⟨⟨⟨⟨⟨⟨tt_,rfl⟩,(fun σ l m hf=>Stp.buildAny rfl rfl (Qz hC.n rfl) (Qo.es rfl) Qil rfl (by decide) (by decide) (Qb8 l rfl) rfl rfl (hf rfl))⟩,(Qhw _ _ _ _ _ e)⟩,(Qfc _ g)⟩,rfl⟩,(fun σ l m hf=>Stp.buildAny rfl rfl (Qz hC.n rfl) (Qo.es rfl) Qil rfl (by decide) (by decide) (Qb8 l rfl) rfl rfl (hf rfl))⟩,(Qgb _ _ i)⟩,rfl⟩,(Qgc _ _ k)⟩,rfl⟩ ?_
 cases h
 exact AK.done (ex_ [_,_] (an_ (an_ (ex_ _ (ex_ _ (an_ rfl (an_ rfl (Or.inl (an_ (Qo.ag rfl) (an_ (Qo.sz rfl) rfl))))))) (an_ rfl tt_)) (Qas tt_)))
def Qiv (b:(List Int))(a:(Int×Int)):Option (List Int):=
 (Qat b ([a.1,a.2]:List Int)).bind fun c=>
 some c
theorem QjC (c a){r}(h:Qiv c a=some r):Qh prog 92 [.own 605 c.length,.agg (Qy a)] [(605,.arr 1 (c.map Qp))] (Qt (.own 605 r.length) [(605,.arr 1 (r.map Qp))]):=by
 refine Qh.walk 8 func92 rfl rfl rfl fun C hC=>?_
 obtain⟨f,e,h⟩:=Qf h
 refine Qa hC [.n 9,.x (fun σ=>(σ.kill 3).put 6 (.sl 1 (([a.1,a.2]:List Int).map Qs))),.cm (.fn) [(605,605)] [(605,605)] [605] [.d,.d] [(605,.arr 1 (f.map Qp))] (.own 605 f.length),.n 4] rfl ⟨⟨tt_,(Stp.sliceVar (b:=3) rfl rfl (Qz hC.n rfl) rfl rfl rfl (Qo.ar rfl) rfl rfl rfl rfl rfl)⟩,(Qab _ _ e)⟩ ?_
 cases h
 exact d1_ rfl rfl ⟨rfl,tt_⟩
def QeS (d:QBg)(a:Int)(e:(List Int)):Option ((Int×(List Int))⊕(List Int)):=
 bif (decide (a<(d.length:Int)))then
 (idx d a).bind fun b=>
 (Qiv e b).bind fun c=>
 some (.inl ((w64 (a+1)),c))
 else
 some (.inr e)
def QeT (a:(List Int)):Option (List Int):=
 some a
def QfZ (b:(List Int))(a:QBg):Option (List Int):=
 (Qat b ([(a.length:Int)]:List Int)).bind fun c=>
 (QH (fun st=>QeS a st.1 st.2) (0,c)).bind (fun q=>QeT q)
theorem Qim (k c){r}(h:QfZ k c=some r):Qh prog 91 [.own 605 k.length,.sl 2 (c.map Qy),.clo (.func 92) [] []] [(605,.arr 1 (k.map Qp))] (Qt (.own 605 r.length) [(605,.arr 1 (r.map Qp))]):=by
 refine Qh.walk 26 func91 rfl rfl rfl fun C hC=>?_
 obtain⟨p,l,h⟩:=Qf h
 refine Qa hC [.n 9,.o (.ln c.length),.v (.bd []) [] (.sl 1 (([(c.length:Int)]:List Int).map Qs)),.cm (.fn) [(605,605)] [(605,605)] [605] [.d,.d] [(605,.arr 1 (p.map Qp))] (.own 605 p.length),.n 7,.o (.ln c.length),.n 4,.K [0,2,14,15,16] [605]] rfl ⟨⟨⟨⟨tt_,Ql⟩,rfl⟩,(Qab _ _ l)⟩,Ql⟩ ?_
 obtain⟨m,f,h⟩:=Qf h
 refine AK.loop (body:=(fun st=>QeS c st.1 st.2)) (fun st σ=>σ=⟨[(0,.own 605 st.2.length),(2,.clo (.func 92) [] []),(14,.sl 2 (c.map Qy)),(15,.I (c.length:Int)),(16,.I st.1)],[(605,.arr 1 (st.2.map Qp))]⟩) (fun q e σ=>e=.exit 0∧σ=⟨[(0,.own 605 q.length)],[(605,.arr 1 (q.map Qp))]⟩) f rfl ?_ ?_
 ·rintro ⟨s,t⟩ o σ rfl h
  refine tg_ hC [.n 6] rfl ?_
  rcases QN h with⟨a,h⟩|⟨a,h⟩
  ·obtain⟨b,g,h⟩:=Qf h
   obtain⟨i,j,h⟩:=Qf h
   refine Qa hC [.T,.n 6,.o (.row (Qy b)),.v .no [] (.agg (Qy b)),.n 2,.O 8 (.var (Qy b)),.n 5,.v .no [] (.agg (Qy b)),.cm (.clo) [(605,605)] [(605,605)] [605] [.d,.d] [(605,.arr 1 (i.map Qp))] (.own 605 i.length),.n 8,.K [0,2,14,15,16] [605]] rfl ⟨⟨⟨⟨⟨⟨tt_,a⟩,(Qa5 g)⟩,rfl⟩,rfl⟩,rfl⟩,(QjC _ _ j)⟩ ?_
   cases h
   exact QaP rfl rfl
  refine Qa hC [.F,.n 2,.K [0] [605]] rfl ⟨tt_,a⟩ ?_
  cases h
  exact QaL rfl (an_ rfl rfl)
 replace h:QeT m=some r:=h
 rintro e σ ⟨rfl,rfl⟩
 refine tg_ hC [.n 9] rfl ?_
 cases h
 exact d1_ rfl rfl ⟨rfl,tt_⟩
def Qjl (a:(List Int))(b:QBg):Option (List Int):=
 (QfZ a b).bind fun c=>
 some c
theorem Qkt (a c){r}(h:Qjl a c=some r):Qh prog 57 [.own 605 a.length,.sl 2 (c.map Qy)] [(605,.arr 1 (a.map Qp))] (Qt (.own 605 r.length) [(605,.arr 1 (r.map Qp))]):=by
 refine Qh.walk 8 func57 rfl rfl rfl fun C hC=>?_
 obtain⟨e,b,h⟩:=Qf h
 refine Qa hC [.n 9,.cm (.fn) [(605,605)] [(605,605)] [605] [.d,.d,.d] [(605,.arr 1 (e.map Qp))] (.own 605 e.length),.n 4] rfl ⟨tt_,(Qim _ _ b)⟩ ?_
 cases h
 exact d1_ rfl rfl ⟨rfl,tt_⟩
def Qea (d:QMk)(a:Int)(e:(List Int)):Option ((Int×(List Int))⊕(List Int)):=
 bif (decide (a<(d.length:Int)))then
 (idx d a).bind fun b=>
 (Qjl e b).bind fun c=>
 some (.inl ((w64 (a+1)),c))
 else
 some (.inr e)
def Qeb (a:(List Int)):Option (List Int):=
 some a
def Qfd (b:(List Int))(a:QMk):Option (List Int):=
 (Qat b ([(a.length:Int)]:List Int)).bind fun c=>
 (QH (fun st=>Qea a st.1 st.2) (0,c)).bind (fun q=>Qeb q)
theorem Qhx (j b){r}(h:Qfd j b=some r):Qh prog 55 [.own 605 j.length,.sl 1 (b.map QG),.clo (.func 57) [] []] [(605,.arr 1 (j.map Qp))] (Qt (.own 605 r.length) [(605,.arr 1 (r.map Qp))]):=by
 refine Qh.walk 26 func55 rfl rfl rfl fun C hC=>?_
 obtain⟨p,k,h⟩:=Qf h
 refine Qa hC [.n 9,.o (.ln b.length),.v (.bd []) [] (.sl 1 (([(b.length:Int)]:List Int).map Qs)),.cm (.fn) [(605,605)] [(605,605)] [605] [.d,.d] [(605,.arr 1 (p.map Qp))] (.own 605 p.length),.n 7,.o (.ln b.length),.n 4,.K [0,2,14,15,16] [605]] rfl ⟨⟨⟨⟨tt_,Ql⟩,rfl⟩,(Qab _ _ k)⟩,Ql⟩ ?_
 obtain⟨l,c,h⟩:=Qf h
 refine AK.loop (body:=(fun st=>Qea b st.1 st.2)) (fun st σ=>σ=⟨[(0,.own 605 st.2.length),(2,.clo (.func 57) [] []),(14,.sl 1 (b.map QG)),(15,.I (b.length:Int)),(16,.I st.1)],[(605,.arr 1 (st.2.map Qp))]⟩) (fun q e σ=>e=.exit 0∧σ=⟨[(0,.own 605 q.length)],[(605,.arr 1 (q.map Qp))]⟩) c rfl ?_ ?_
 ·rintro ⟨s,t⟩ o σ rfl h
  refine tg_ hC [.n 6] rfl ?_
  rcases QN h with⟨a,h⟩|⟨a,h⟩
  ·obtain⟨m,f,h⟩:=Qf h
   obtain⟨g,i,h⟩:=Qf h
   refine Qa hC [.T,.n 6,.o (.row (QG m)),.n 8,.cm (.clo) [(605,605)] [(605,605)] [605] [.d,.d] [(605,.arr 1 (g.map Qp))] (.own 605 g.length),.n 8,.K [0,2,14,15,16] [605]] rfl ⟨⟨⟨tt_,a⟩,(Qa5 f)⟩,(Qkt _ _ i)⟩ ?_
   cases h
   exact QaP rfl rfl
  refine Qa hC [.F,.n 2,.K [0] [605]] rfl ⟨tt_,a⟩ ?_
  cases h
  exact QaL rfl (an_ rfl rfl)
 replace h:Qeb l=some r:=h
 rintro e σ ⟨rfl,rfl⟩
 refine tg_ hC [.n 9] rfl ?_
 cases h
 exact d1_ rfl rfl ⟨rfl,tt_⟩
def QiW (b:(List Int))(a:Qk):Option (List Int):=
 (Qat b ([a.Id]:List Int)).bind fun c=>
 (QgA c a.Mode).bind fun d=>
 (Qat d ([a.Batch.Most,a.Batch.Enough,a.Batch.Open,a.Batch.Done,a.Batch.Failed,a.Until]:List Int)).bind fun e=>
 some e
theorem Qj3 (c b){r}(h:QiW c b=some r):Qh prog 58 [.own 605 c.length,.agg (Qd b)] [(605,.arr 1 (c.map Qp))] (Qt (.own 605 r.length) [(605,.arr 1 (r.map Qp))]):=by
 refine Qh.walk 30 func58 rfl rfl rfl fun C hC=>?_
 obtain⟨i,e,h⟩:=Qf h
 obtain⟨j,f,h⟩:=Qf h
 obtain⟨k,g,h⟩:=Qf h
 refine Qa hC [.n 9,.v .no [] (.agg (Qah b.Batch)),.n 2,.O 5 (.var (Qah b.Batch)),.n 3,.K [0,3,4,5] [3,5,605]] rfl ⟨⟨tt_,rfl⟩,rfl⟩ ?_
 refine AK.draw2 Qo hC mixed [.N,.N,.N,.a (.bd []) (some ([],.sl 1 (([b.Id]:List Int).map Qs))) false,.m (.cm (.fn) [(605,605)] [(605,605)] [605] [.d,.d] [(605,.arr 1 (i.map Qp))] (.own 605 i.length) []),.a .no none true,.a .no (some ([],.agg (Q4 b.Mode))) true,.m (.cm (.fn) [(605,605)] [(605,605)] [605] [.d,.d] [(605,.arr 1 (j.map Qp))] (.own 605 j.length) []),.a .no none true,.a .no none true,.a .no none true,.a .no none true,.a .no none true,.a .no none true,.a .no none true,.a .no none true,.a .no none true,.a .no none true,.a .no none true,.a .no none true,.a (.bd []) (some ([],.sl 1 (([b.Batch.Most,b.Batch.Enough,b.Batch.Open,b.Batch.Done,b.Batch.Failed,b.Until]:List Int).map Qs))) true,.m (.cm (.fn) [(605,605)] [(605,605)] [605] [.d,.d] [(605,.arr 1 (k.map Qp))] (.own 605 k.length) []),.m .s] [3,4,5] [3,5] [4] [605] rfl rfl rfl ⟨⟨⟨⟨⟨⟨tt_,rfl⟩,⟨tt_,(Qab _ _ e)⟩⟩,rfl⟩,⟨tt_,(Qg5 _ _ f)⟩⟩,rfl⟩,⟨tt_,(Qab _ _ g)⟩⟩ rfl (by kernel_rfl) rfl rfl rfl ?_
 refine tg_ hC [.n 2] rfl ?_
 cases h
 exact d1_ rfl rfl ⟨rfl,tt_⟩
def Qd0 (d:(List Qk))(a:Int)(e:(List Int)):Option ((Int×(List Int))⊕(List Int)):=
 bif (decide (a<(d.length:Int)))then
 (idx d a).bind fun b=>
 (QiW e b).bind fun c=>
 some (.inl ((w64 (a+1)),c))
 else
 some (.inr e)
def Qd1 (a:(List Int)):Option (List Int):=
 some a
def QeU (b:(List Int))(a:(List Qk)):Option (List Int):=
 (Qat b ([(a.length:Int)]:List Int)).bind fun c=>
 (QH (fun st=>Qd0 a st.1 st.2) (0,c)).bind (fun q=>Qd1 q)
theorem QgM (k c){r}(h:QeU k c=some r):Qh prog 54 [.own 605 k.length,.sl 11 (c.map Qd),.clo (.func 58) [] []] [(605,.arr 1 (k.map Qp))] (Qt (.own 605 r.length) [(605,.arr 1 (r.map Qp))]):=by
 refine Qh.walk 26 func54 rfl rfl rfl fun C hC=>?_
 obtain⟨p,l,h⟩:=Qf h
 refine Qa hC [.n 9,.o (.ln c.length),.v (.bd []) [] (.sl 1 (([(c.length:Int)]:List Int).map Qs)),.cm (.fn) [(605,605)] [(605,605)] [605] [.d,.d] [(605,.arr 1 (p.map Qp))] (.own 605 p.length),.n 7,.o (.ln c.length),.n 4,.K [0,2,14,15,16] [605]] rfl ⟨⟨⟨⟨tt_,Ql⟩,rfl⟩,(Qab _ _ l)⟩,Ql⟩ ?_
 obtain⟨m,f,h⟩:=Qf h
 refine AK.loop (body:=(fun st=>Qd0 c st.1 st.2)) (fun st σ=>σ=⟨[(0,.own 605 st.2.length),(2,.clo (.func 58) [] []),(14,.sl 11 (c.map Qd)),(15,.I (c.length:Int)),(16,.I st.1)],[(605,.arr 1 (st.2.map Qp))]⟩) (fun q e σ=>e=.exit 0∧σ=⟨[(0,.own 605 q.length)],[(605,.arr 1 (q.map Qp))]⟩) f rfl ?_ ?_
 ·rintro ⟨s,t⟩ o σ rfl h
  refine tg_ hC [.n 6] rfl ?_
  rcases QN h with⟨a,h⟩|⟨a,h⟩
  ·obtain⟨b,g,h⟩:=Qf h
   obtain⟨i,j,h⟩:=Qf h
   refine Qa hC [.T,.n 6,.o (.row (Qd b)),.v .no [] (.agg (Qd b)),.n 2,.O 8 (.var (Qd b)),.n 5,.v .no [] (.agg (Qd b)),.cm (.clo) [(605,605)] [(605,605)] [605] [.d,.d] [(605,.arr 1 (i.map Qp))] (.own 605 i.length),.n 8,.K [0,2,14,15,16] [605]] rfl ⟨⟨⟨⟨⟨⟨tt_,a⟩,(Qa5 g)⟩,rfl⟩,rfl⟩,rfl⟩,(Qj3 _ _ j)⟩ ?_
   cases h
   exact QaP rfl rfl
  refine Qa hC [.F,.n 2,.K [0] [605]] rfl ⟨tt_,a⟩ ?_
  cases h
  exact QaL rfl (an_ rfl rfl)
 replace h:Qd1 m=some r:=h
 rintro e σ ⟨rfl,rfl⟩
 refine tg_ hC [.n 9] rfl ?_
 cases h
 exact d1_ rfl rfl ⟨rfl,tt_⟩
def QfL (a:QS):Option (List Int):=
 (Qhv ([a.Next,a.Now]:List Int)).bind fun b=>
 (Qfd b a.M).bind fun c=>
 (QeU c a.Items).bind fun d=>
 some d
theorem QhM (b){r}(h:QfL b=some r):Qh prog 24 [.agg (QP b)] [] (Qt (.own 600 r.length) [(600,.arr 1 (r.map Qp))]):=by
 refine Qh.walk 15 func24 rfl rfl rfl fun C hC=>?_
 obtain⟨g,c,h⟩:=Qf h
 obtain⟨i,e,h⟩:=Qf h
 obtain⟨j,f,h⟩:=Qf h
 refine tg_ hC [.n 7,.K [1,2] [1]] rfl ?_
 refine AK.draw2 Qo hC mixed [.N,.N,.N,.N,.a (.bd []) (some ([],.sl 1 (([b.Next,b.Now]:List Int).map Qs))) false,.m (.cm (.fn) [] [(8,600)] [8] [.d,.d] [(600,.arr 1 (g.map Qp))] (.own 600 g.length) []),.a .no none true,.a .no none true,.m (.cm (.fn) [(605,8)] [(8,605)] [8] [.d,.d,.d] [(605,.arr 1 (i.map Qp))] (.own 605 i.length) []),.a .no none true,.a .no none true,.m (.cm (.fn) [(605,8)] [(8,605)] [8] [.d,.d,.d] [(605,.arr 1 (j.map Qp))] (.own 605 j.length) []),.m .s] [1,2] [1] [2] [8] rfl rfl rfl ⟨⟨⟨⟨tt_,rfl⟩,⟨tt_,(QhK _ c)⟩⟩,⟨tt_,(Qhx _ _ e)⟩⟩,⟨tt_,(QgM _ _ f)⟩⟩ rfl (by kernel_rfl) rfl rfl rfl ?_
 refine tg_ hC [.n 2,.K [2] [8],.ren 8 600] rfl ?_
 cases h
 exact d1_ rfl rfl ⟨rfl,tt_⟩
def QcA (c:Qc)(d:Int)(e:Int):Option (Qc×QS):=
 (Qr c).bind fun a=>
 (Qr a.2).bind fun b=>
 some (b.2,(QS.mk ([]:List QBg) ([]:List Qk) a.1 b.1))
theorem Qgd (k l f){r}(h:QcA k l f=some r):Qh prog 67 [.loc 607 0 0,.own 608 2] [(607,.var (Qb k)),(608,.var [.loc 609 0 2,.loc 609 0 3]),(609,.var [.lit (.slice none 0 0),.lit (.slice none 0 0),.I l,.I f])] (Qt (.tup []) [(607,.var (Qb r.1)),(608,.var [.loc 609 0 2,.loc 609 0 3]),(609,.var (QP r.2))]):=by
 refine Qh.walk 17 func67 rfl rfl rfl fun C hC=>?_
 refine tg_ hC [.n 8] rfl ?_
 refine AK.loopN 3 (AK.rnd ?_)
 obtain⟨a,g,h⟩:=Qf h
 refine Qa hC [.n 2,.v .no [] (.b true),.n 10,.o (.any (.loc 608 0 0) none),.n 7,.cm (.fn) [(607,607)] [(607,607)] [] [.d] [(607,.var (Qb a.2))] (.I a.1),.n 2,.O 609 (.var [.lit (.slice none 0 0),.lit (.slice none 0 0),.I a.1,.I f]),.n 4,.v .no [] (.I 1),.n 2] rfl ⟨⟨⟨⟨⟨tt_,rfl⟩,(fun σ c i _=>Stp.idxV rfl rfl (Qz hC.n rfl) (c _ _ rfl) (c _ _ rfl) (Qo.es rfl) (i _ _ rfl) (by decide))⟩,(Qw _ g)⟩,rfl⟩,rfl⟩ ?_
 refine AK.met (AK.rnd ?_)
 obtain⟨e,j,h⟩:=Qf h
 refine Qa hC [.n 2,.v .no [] (.b true),.n 10,.o (.any (.loc 608 0 1) none),.n 7,.cm (.fn) [(607,607)] [(607,607)] [] [.d] [(607,.var (Qb e.2))] (.I e.1),.n 2,.O 609 (.var [.lit (.slice none 0 0),.lit (.slice none 0 0),.I a.1,.I e.1]),.n 4,.v .no [] (.I 2),.n 2] rfl ⟨⟨⟨⟨⟨tt_,rfl⟩,(fun σ c i _=>Stp.idxV rfl rfl (Qz hC.n rfl) (c _ _ rfl) (c _ _ rfl) (Qo.es rfl) (i _ _ rfl) (by decide))⟩,(Qw _ j)⟩,rfl⟩,rfl⟩ ?_
 refine AK.met (AK.rnd ?_)
 refine Qa hC [.n 2,.v .no [] (.b false),.n 8,.denilO 609 [some 1,some 11,none,none],.O 609 (.var (QP (QS.mk ([]:List QBg) ([]:List Qk) a.1 e.1))),.K [] [607,608,609]] rfl ⟨⟨tt_,rfl⟩,rfl⟩ ?_
 cases h
 refine AK.done ?_
 exact ex_ [] (an_ tt_ (Qas ⟨rfl,rfl,rfl,tt_⟩))
def QcB (c:Qc)(d:(Int×Int)):Option (Qc×(Int×Int)):=
 (Qr c).bind fun a=>
 (Qr a.2).bind fun b=>
 some (b.2,(a.1,b.1))
theorem Qge (k e){r}(h:QcB k e=some r):Qh prog 67 [.loc 607 0 0,.own 608 2] [(607,.var (Qb k)),(608,.var [.loc 609 0 0,.loc 609 0 1]),(609,.var (Qy e))] (Qt (.tup []) [(607,.var (Qb r.1)),(608,.var [.loc 609 0 0,.loc 609 0 1]),(609,.var (Qy r.2))]):=by
 refine Qh.walk 17 func67 rfl rfl rfl fun C hC=>?_
 refine tg_ hC [.n 8] rfl ?_
 refine AK.loopN 3 (AK.rnd ?_)
 obtain⟨c,f,h⟩:=Qf h
 refine Qa hC [.n 2,.v .no [] (.b true),.n 10,.o (.any (.loc 608 0 0) none),.n 7,.cm (.fn) [(607,607)] [(607,607)] [] [.d] [(607,.var (Qb c.2))] (.I c.1),.n 2,.O 609 (.var (Qy (c.1,e.2))),.n 4,.v .no [] (.I 1),.n 2] rfl ⟨⟨⟨⟨⟨tt_,rfl⟩,(fun σ a g _=>Stp.idxV rfl rfl (Qz hC.n rfl) (a _ _ rfl) (a _ _ rfl) (Qo.es rfl) (g _ _ rfl) (by decide))⟩,(Qw _ f)⟩,rfl⟩,rfl⟩ ?_
 refine AK.met (AK.rnd ?_)
 obtain⟨i,j,h⟩:=Qf h
 refine Qa hC [.n 2,.v .no [] (.b true),.n 10,.o (.any (.loc 608 0 1) none),.n 7,.cm (.fn) [(607,607)] [(607,607)] [] [.d] [(607,.var (Qb i.2))] (.I i.1),.n 2,.O 609 (.var (Qy (c.1,i.1))),.n 4,.v .no [] (.I 2),.n 2] rfl ⟨⟨⟨⟨⟨tt_,rfl⟩,(fun σ a g _=>Stp.idxV rfl rfl (Qz hC.n rfl) (a _ _ rfl) (a _ _ rfl) (Qo.es rfl) (g _ _ rfl) (by decide))⟩,(Qw _ j)⟩,rfl⟩,rfl⟩ ?_
 refine AK.met (AK.rnd ?_)
 refine Qa hC [.n 2,.v .no [] (.b false),.n 8,.K [] [607,608,609]] rfl ⟨tt_,rfl⟩ ?_
 cases h
 refine AK.done ?_
 exact ex_ [] (an_ tt_ (Qas ⟨rfl,rfl,rfl,tt_⟩))
def QbV (b:Qc):Option ((Int×Int)×Qc):=
 (QcB b (0,0)).bind fun a=>
 some (a.2,a.1)
theorem Qin (c){r}(h:QbV c=some r):Qh prog 100 [.loc 607 0 0] [(607,.var (Qb c))] (Qt (.agg (Qy r.1)) [(607,.var (Qb r.2))]):=by
 refine Qh.walk 10 func100 rfl rfl rfl fun C hC=>?_
 obtain⟨a,b,h⟩:=Qf h
 refine Qa hC [.n 15,.o (.any (.own 7 2) (some (.var [.loc 3 0 0,.loc 3 0 1]))),.cm (.fn) [(607,607),(608,7),(609,3)] [(607,607),(7,608),(3,609)] [] [.d,.d] [(607,.var (Qb a.1)),(608,.var [.loc 609 0 0,.loc 609 0 1]),(609,.var (Qy a.2))] (.tup []),.n 4,.v .no [] (.agg (Qy a.2)),.n 1,.O 2 (.var (Qy a.2)),.n 3,.K [2] [2,607]] rfl ⟨⟨⟨⟨tt_,(fun σ e f hf=>Stp.buildAny rfl rfl (Qz hC.n rfl) (Qo.es rfl) Qil rfl (by decide) (by decide) (Qb8 e rfl) rfl rfl (hf rfl))⟩,(Qge _ _ b)⟩,rfl⟩,rfl⟩ ?_
 cases h
 exact AK.done (ex_ [_] (an_ (an_ (ex_ _ (ex_ _ (an_ rfl (an_ rfl (Or.inl (an_ (Qo.ag rfl) (an_ (Qo.sz rfl) rfl))))))) tt_) (Qas ⟨rfl,tt_⟩)))
def Qeu (a:(Int×Qc)):Option Qc:=
 bif a.2.bad then
 some (Qc.mk a.2.b true)
 else
 some (Qc.mk a.2.b (decide (a.1<0)))
def Qav (e:(Int×Qc))(d:Int)(a:Qc)(b:QBg):Option ((Int×Qc×QBg)⊕(QBg×Qc)):=
 bif ((decide (d<e.1))&&(!a.bad))then
 (QbV a).bind fun c=>
 (chk (decide (b.length+([c.1]:List (Int×Int)).length≤4294967296))).bind fun _=>
 some (.inl ((w64 (d+1)),c.2,(b++([c.1]:List (Int×Int)))))
 else
 some (.inr (b,a))
def Qev (a:QBg)(b:Qc):Option (QBg×Qc):=
 some (a,b)
def QcR (a:(Int×Qc))(b:Qc):Option (QBg×Qc):=
 (QH (fun st=>Qav a st.1 st.2.1 st.2.2) (0,b,([]:List (Int×Int)))).bind (fun q=>Qev q.1 q.2)
def QbK (b:Qc):Option (QBg×Qc):=
 (Qr b).bind fun a=>
 (Qeu a).bind (fun c=>QcR a c)
theorem QhN (A){r}(h:QbK A=some r):Qh prog 99 [.loc 607 0 0,.clo (.func 100) [] []] [(607,.var (Qb A))] (Qt (.own 600 r.1.length) [(600,.arr 2 (r.1.map Qy)),(607,.var (Qb r.2))]):=by
 refine Qh.walk 40 func99 rfl rfl rfl fun C hC=>?_
 obtain⟨c,t,h⟩:=Qf h
 refine Qa hC [.n 8,.cm (.fn) [(607,607)] [(607,607)] [] [.d] [(607,.var (Qb c.2))] (.I c.1),.n 4] rfl ⟨tt_,(Qw _ t)⟩ ?_
 obtain⟨u,w,h⟩:=Qf h
 replace h:QcR c u=some r:=h
 refine AK.meetX (fun σ=>σ=⟨[(0,.loc 607 0 0),(1,.clo (.func 100) [] []),(5,.I c.1)],[(607,.var (Qb u))]⟩) ?_ ?_
 ·replace h:=w
  refine tg_ hC [.n 7] rfl ?_
  refine bg_ h (fun k h=>Qa hC [.S 15 (.b true),.n 6,.O 607 (.var (Qb (Qc.mk c.2.b true))),.n 1,.K [0,1,5] [607]] rfl ⟨(tc_ k),rfl⟩ ?_) fun k h=>Qa hC [.S 15 (.b false),.n 6,.O 607 (.var (Qb (Qc.mk c.2.b (decide (c.1<0))))),.n 1,.K [0,1,5] [607]] rfl ⟨(tc_ k),rfl⟩ ?_
  ·cases h
   exact AK.met rfl
  cases h
  exact AK.met rfl
 rintro σ rfl
 replace h:QcR c u=some r:=h
 refine Qa hC [.n 13,.adopt 6 33 2,.O 33 (.arr 2 (([]:List (Int×Int)).map Qy)),.S 6 (.own 33 ([]:List (Int×Int)).length),.K [0,1,5,6,7] [33,607]] rfl ⟨⟨tt_,rfl⟩,(congrArg (fun n=>V.own 33 n) (by simp))⟩ ?_
 obtain⟨x,l,h⟩:=Qf h
 refine AK.loop (body:=(fun st=>Qav c st.1 st.2.1 st.2.2)) (fun st σ=>σ=⟨[(0,.loc 607 0 0),(1,.clo (.func 100) [] []),(5,.I c.1),(6,.own 33 st.2.2.length),(7,.I st.1)],[(33,.arr 2 (st.2.2.map Qy)),(607,.var (Qb st.2.1))]⟩) (fun q e σ=>e=.exit 0∧σ=⟨[(6,.own 33 q.1.length)],[(33,.arr 2 (q.1.map Qy)),(607,.var (Qb q.2))]⟩) l rfl ?_ ?_
 ·rintro ⟨m,i,j⟩ o σ rfl h
  refine tg_ hC [.n 2] rfl ?_
  refine AK.meetX (fun σ=>σ=⟨[(0,.loc 607 0 0),(1,.clo (.func 100) [] []),(5,.I c.1),(6,.own 33 j.length),(7,.I m),(30,.b ((decide (m<c.1))&&(!i.bad)))],[(33,.arr 2 (j.map Qy)),(607,.var (Qb i))]⟩) ?_ ?_
  ·refine tg_ hC [.n 5] rfl ?_
   rcases Qbt (decide (m<c.1))with a | a
   ·refine Qa hC [.S 24 (.b true),.n 7,.S 30 (.b ((decide (m<c.1))&&(!i.bad))),.K [0,1,5,6,7,30] [33,607]] rfl ⟨(tc_ a),(congrArg V.b (Qgq a rfl))⟩ ?_
    exact AK.met rfl
   refine Qa hC [.S 24 (.b false),.n 7,.S 30 (.b ((decide (m<c.1))&&(!i.bad))),.K [0,1,5,6,7,30] [33,607]] rfl ⟨(tc_ a),(congrArg V.b (Qgr a rfl))⟩ ?_
   exact AK.met rfl
  rintro σ rfl
  refine tg_ hC [.n 1] rfl ?_
  rcases QN h with⟨f,h⟩|⟨f,h⟩
  ·obtain⟨g,p,h⟩:=Qf h
   obtain⟨s,h⟩:=QbS h
   refine Qa hC [.T,.n 8,.cm (.clo) [(607,607)] [(607,607)] [] [.d] [(607,.var (Qb g.2))] (.agg (Qy g.1)),.v (.bd []) [] (.sl 2 (([g.1]:List (Int×Int)).map Qy)),.app ((j++([g.1]:List (Int×Int))).map Qy) (j++([g.1]:List (Int×Int))).length,.n 9,.K [0,1,5,6,7] [33,607]] rfl ⟨⟨⟨⟨tt_,f⟩,(Qin _ p)⟩,rfl⟩,⟨Ql,Qcv s Ql,Qby,Qdy Ql⟩⟩ ?_
   cases h
   exact QaP rfl rfl
  refine Qa hC [.F,.n 2,.K [6] [33,607]] rfl ⟨tt_,f⟩ ?_
  cases h
  exact QaL rfl (an_ rfl rfl)
 obtain⟨y,z⟩:=x
 replace h:Qev y z=some r:=h
 rintro e σ ⟨rfl,rfl⟩
 refine tg_ hC [.n 9,.K [4] [33,607],.ren 33 600] rfl ?_
 cases h
 exact d1_ rfl rfl ⟨rfl,rfl,tt_⟩
def Qcw (b:Qc):Option (QBg×Qc):=
 (QbK b).bind fun a=>
 some (a.1,a.2)
theorem QiX (c){r}(h:Qcw c=some r):Qh prog 69 [.loc 607 0 0] [(607,.var (Qb c))] (Qt (.own 600 r.1.length) [(600,.arr 2 (r.1.map Qy)),(607,.var (Qb r.2))]):=by
 refine Qh.walk 5 func69 rfl rfl rfl fun C hC=>?_
 obtain⟨a,b,h⟩:=Qf h
 refine Qa hC [.n 8,.cm (.fn) [(607,607)] [(4,600),(607,607)] [] [.d,.d] [(600,.arr 2 (a.1.map Qy)),(607,.var (Qb a.2))] (.own 600 a.1.length),.n 4,.K [2] [4,607],.ren 4 600] rfl ⟨tt_,(QhN _ b)⟩ ?_
 cases h
 exact d1_ rfl rfl ⟨rfl,rfl,tt_⟩
def Qd2 (a:(Int×Qc)):Option Qc:=
 bif a.2.bad then
 some (Qc.mk a.2.b true)
 else
 some (Qc.mk a.2.b (decide (a.1<0)))
def Qac (e:(Int×Qc))(d:Int)(a:Qc)(b:QMk):Option ((Int×Qc×QMk)⊕(QMk×Qc)):=
 bif ((decide (d<e.1))&&(!a.bad))then
 (Qcw a).bind fun c=>
 (chk (decide (b.length+([c.1]:List QBg).length≤4294967296))).bind fun _=>
 some (.inl ((w64 (d+1)),c.2,(b++([c.1]:List QBg))))
 else
 some (.inr (b,a))
def Qd3 (a:QMk)(b:Qc):Option (QMk×Qc):=
 some (a,b)
def Qcm (a:(Int×Qc))(b:Qc):Option (QMk×Qc):=
 (QH (fun st=>Qac a st.1 st.2.1 st.2.2) (0,b,([]:List QBg))).bind (fun q=>Qd3 q.1 q.2)
def Qbg (b:Qc):Option (QMk×Qc):=
 (Qr b).bind fun a=>
 (Qd2 a).bind (fun c=>Qcm a c)
theorem QgN (A){r}(h:Qbg A=some r):Qh prog 68 [.loc 607 0 0,.clo (.func 69) [] []] [(607,.var (Qb A))] (Qt (.own 600 r.1.length) [(600,.arr 1 (r.1.map QG)),(607,.var (Qb r.2))]):=by
 refine Qh.walk 40 func68 rfl rfl rfl fun C hC=>?_
 obtain⟨c,t,h⟩:=Qf h
 refine Qa hC [.n 8,.cm (.fn) [(607,607)] [(607,607)] [] [.d] [(607,.var (Qb c.2))] (.I c.1),.n 4] rfl ⟨tt_,(Qw _ t)⟩ ?_
 obtain⟨u,w,h⟩:=Qf h
 replace h:Qcm c u=some r:=h
 refine AK.meetX (fun σ=>σ=⟨[(0,.loc 607 0 0),(1,.clo (.func 69) [] []),(5,.I c.1)],[(607,.var (Qb u))]⟩) ?_ ?_
 ·replace h:=w
  refine tg_ hC [.n 7] rfl ?_
  refine bg_ h (fun k h=>Qa hC [.S 15 (.b true),.n 6,.O 607 (.var (Qb (Qc.mk c.2.b true))),.n 1,.K [0,1,5] [607]] rfl ⟨(tc_ k),rfl⟩ ?_) fun k h=>Qa hC [.S 15 (.b false),.n 6,.O 607 (.var (Qb (Qc.mk c.2.b (decide (c.1<0))))),.n 1,.K [0,1,5] [607]] rfl ⟨(tc_ k),rfl⟩ ?_
  ·cases h
   exact AK.met rfl
  cases h
  exact AK.met rfl
 rintro σ rfl
 replace h:Qcm c u=some r:=h
 refine Qa hC [.n 13,.adopt 6 33 1,.O 33 (.arr 1 (([]:List QBg).map QG)),.S 6 (.own 33 ([]:List QBg).length),.K [0,1,5,6,7] [33,607]] rfl ⟨⟨tt_,rfl⟩,(congrArg (fun n=>V.own 33 n) (by simp))⟩ ?_
 obtain⟨x,l,h⟩:=Qf h
 refine AK.loop (body:=(fun st=>Qac c st.1 st.2.1 st.2.2)) (fun st σ=>σ=⟨[(0,.loc 607 0 0),(1,.clo (.func 69) [] []),(5,.I c.1),(6,.own 33 st.2.2.length),(7,.I st.1)],[(33,.arr 1 (st.2.2.map QG)),(607,.var (Qb st.2.1))]⟩) (fun q e σ=>e=.exit 0∧σ=⟨[(6,.own 33 q.1.length)],[(33,.arr 1 (q.1.map QG)),(607,.var (Qb q.2))]⟩) l rfl ?_ ?_
 ·rintro ⟨m,i,j⟩ o σ rfl h
  refine tg_ hC [.n 2] rfl ?_
  refine AK.meetX (fun σ=>σ=⟨[(0,.loc 607 0 0),(1,.clo (.func 69) [] []),(5,.I c.1),(6,.own 33 j.length),(7,.I m),(30,.b ((decide (m<c.1))&&(!i.bad)))],[(33,.arr 1 (j.map QG)),(607,.var (Qb i))]⟩) ?_ ?_
  ·refine tg_ hC [.n 5] rfl ?_
   rcases Qbt (decide (m<c.1))with a | a
   ·refine Qa hC [.S 24 (.b true),.n 7,.S 30 (.b ((decide (m<c.1))&&(!i.bad))),.K [0,1,5,6,7,30] [33,607]] rfl ⟨(tc_ a),(congrArg V.b (Qgq a rfl))⟩ ?_
    exact AK.met rfl
   refine Qa hC [.S 24 (.b false),.n 7,.S 30 (.b ((decide (m<c.1))&&(!i.bad))),.K [0,1,5,6,7,30] [33,607]] rfl ⟨(tc_ a),(congrArg V.b (Qgr a rfl))⟩ ?_
   exact AK.met rfl
  rintro σ rfl
  refine tg_ hC [.n 1] rfl ?_
  rcases QN h with⟨g,h⟩|⟨g,h⟩
  ·obtain⟨f,p,h⟩:=Qf h
   obtain⟨s,h⟩:=QbS h
   refine Qa hC [.T,.n 8,.cm (.clo) [(607,607)] [(36,600),(607,607)] [] [.d] [(600,.arr 2 (f.1.map Qy)),(607,.var (Qb f.2))] (.own 600 f.1.length),.frz 36 (f.1.map Qy) [36] [],.v (.bd []) [] (.sl 1 (([f.1]:List QBg).map QG)),.app ((j++([f.1]:List QBg)).map QG) (j++([f.1]:List QBg)).length,.n 9,.K [0,1,5,6,7] [33,607]] rfl ⟨⟨⟨⟨⟨tt_,g⟩,(QiX _ p)⟩,⟨tt_,(Qbc Ql)⟩⟩,rfl⟩,⟨Ql,Qcv s Ql,Qby,Qdy Ql⟩⟩ ?_
   cases h
   exact QaP rfl rfl
  refine Qa hC [.F,.n 2,.K [6] [33,607]] rfl ⟨tt_,g⟩ ?_
  cases h
  exact QaL rfl (an_ rfl rfl)
 obtain⟨y,z⟩:=x
 replace h:Qd3 y z=some r:=h
 rintro e σ ⟨rfl,rfl⟩
 refine tg_ hC [.n 9,.K [4] [33,607],.ren 33 600] rfl ?_
 cases h
 exact d1_ rfl rfl ⟨rfl,rfl,tt_⟩
def QcC (h:Qc)(b:Qk):Option (Qc×Qk):=
 (Qr h).bind fun c=>
 (Qr c.2).bind fun d=>
 (Qr d.2).bind fun e=>
 (Qr e.2).bind fun f=>
 (Qr f.2).bind fun g=>
 (Qr g.2).bind fun a=>
 some (a.2,(Qk.mk b.Id b.Mode (QO.mk c.1 d.1 e.1 f.1 g.1) a.1))
theorem Qgf (w a){r}(h:QcC w a=some r):Qh prog 67 [.loc 607 0 0,.own 608 6] [(607,.var (Qb w)),(608,.var [.loc 609 0 5,.loc 609 0 6,.loc 609 0 7,.loc 609 0 8,.loc 609 0 9,.loc 609 0 10]),(609,.var (Qd a))] (Qt (.tup []) [(607,.var (Qb r.1)),(608,.var [.loc 609 0 5,.loc 609 0 6,.loc 609 0 7,.loc 609 0 8,.loc 609 0 9,.loc 609 0 10]),(609,.var (Qd r.2))]):=by
 refine Qh.walk 17 func67 rfl rfl rfl fun C hC=>?_
 refine tg_ hC [.n 8] rfl ?_
 refine AK.loopN 7 (AK.rnd ?_)
 obtain⟨f,p,h⟩:=Qf h
 refine Qa hC [.n 2,.v .no [] (.b true),.n 10,.o (.any (.loc 608 0 0) none),.n 7,.cm (.fn) [(607,607)] [(607,607)] [] [.d] [(607,.var (Qb f.2))] (.I f.1),.n 2,.O 609 (.var (Qd (Qk.mk a.Id a.Mode (QO.mk f.1 a.Batch.Enough a.Batch.Open a.Batch.Done a.Batch.Failed) a.Until))),.n 4,.v .no [] (.I 1),.n 2] rfl ⟨⟨⟨⟨⟨tt_,rfl⟩,(fun σ c e _=>Stp.idxV rfl rfl (Qz hC.n rfl) (c _ _ rfl) (c _ _ rfl) (Qo.es rfl) (e _ _ rfl) (by decide))⟩,(Qw _ p)⟩,rfl⟩,rfl⟩ ?_
 refine AK.met (AK.rnd ?_)
 obtain⟨g,q,h⟩:=Qf h
 refine Qa hC [.n 2,.v .no [] (.b true),.n 10,.o (.any (.loc 608 0 1) none),.n 7,.cm (.fn) [(607,607)] [(607,607)] [] [.d] [(607,.var (Qb g.2))] (.I g.1),.n 2,.O 609 (.var (Qd (Qk.mk a.Id a.Mode (QO.mk f.1 g.1 a.Batch.Open a.Batch.Done a.Batch.Failed) a.Until))),.n 4,.v .no [] (.I 2),.n 2] rfl ⟨⟨⟨⟨⟨tt_,rfl⟩,(fun σ c e _=>Stp.idxV rfl rfl (Qz hC.n rfl) (c _ _ rfl) (c _ _ rfl) (Qo.es rfl) (e _ _ rfl) (by decide))⟩,(Qw _ q)⟩,rfl⟩,rfl⟩ ?_
 refine AK.met (AK.rnd ?_)
 obtain⟨j,s,h⟩:=Qf h
 refine Qa hC [.n 2,.v .no [] (.b true),.n 10,.o (.any (.loc 608 0 2) none),.n 7,.cm (.fn) [(607,607)] [(607,607)] [] [.d] [(607,.var (Qb j.2))] (.I j.1),.n 2,.O 609 (.var (Qd (Qk.mk a.Id a.Mode (QO.mk f.1 g.1 j.1 a.Batch.Done a.Batch.Failed) a.Until))),.n 4,.v .no [] (.I 3),.n 2] rfl ⟨⟨⟨⟨⟨tt_,rfl⟩,(fun σ c e _=>Stp.idxV rfl rfl (Qz hC.n rfl) (c _ _ rfl) (c _ _ rfl) (Qo.es rfl) (e _ _ rfl) (by decide))⟩,(Qw _ s)⟩,rfl⟩,rfl⟩ ?_
 refine AK.met (AK.rnd ?_)
 obtain⟨k,t,h⟩:=Qf h
 refine Qa hC [.n 2,.v .no [] (.b true),.n 10,.o (.any (.loc 608 0 3) none),.n 7,.cm (.fn) [(607,607)] [(607,607)] [] [.d] [(607,.var (Qb k.2))] (.I k.1),.n 2,.O 609 (.var (Qd (Qk.mk a.Id a.Mode (QO.mk f.1 g.1 j.1 k.1 a.Batch.Failed) a.Until))),.n 4,.v .no [] (.I 4),.n 2] rfl ⟨⟨⟨⟨⟨tt_,rfl⟩,(fun σ c e _=>Stp.idxV rfl rfl (Qz hC.n rfl) (c _ _ rfl) (c _ _ rfl) (Qo.es rfl) (e _ _ rfl) (by decide))⟩,(Qw _ t)⟩,rfl⟩,rfl⟩ ?_
 refine AK.met (AK.rnd ?_)
 obtain⟨m,u,h⟩:=Qf h
 refine Qa hC [.n 2,.v .no [] (.b true),.n 10,.o (.any (.loc 608 0 4) none),.n 7,.cm (.fn) [(607,607)] [(607,607)] [] [.d] [(607,.var (Qb m.2))] (.I m.1),.n 2,.O 609 (.var (Qd (Qk.mk a.Id a.Mode (QO.mk f.1 g.1 j.1 k.1 m.1) a.Until))),.n 4,.v .no [] (.I 5),.n 2] rfl ⟨⟨⟨⟨⟨tt_,rfl⟩,(fun σ c e _=>Stp.idxV rfl rfl (Qz hC.n rfl) (c _ _ rfl) (c _ _ rfl) (Qo.es rfl) (e _ _ rfl) (by decide))⟩,(Qw _ u)⟩,rfl⟩,rfl⟩ ?_
 refine AK.met (AK.rnd ?_)
 obtain⟨i,l,h⟩:=Qf h
 refine Qa hC [.n 2,.v .no [] (.b true),.n 10,.o (.any (.loc 608 0 5) none),.n 7,.cm (.fn) [(607,607)] [(607,607)] [] [.d] [(607,.var (Qb i.2))] (.I i.1),.n 2,.O 609 (.var (Qd (Qk.mk a.Id a.Mode (QO.mk f.1 g.1 j.1 k.1 m.1) i.1))),.n 4,.v .no [] (.I 6),.n 2] rfl ⟨⟨⟨⟨⟨tt_,rfl⟩,(fun σ c e _=>Stp.idxV rfl rfl (Qz hC.n rfl) (c _ _ rfl) (c _ _ rfl) (Qo.es rfl) (e _ _ rfl) (by decide))⟩,(Qw _ l)⟩,rfl⟩,rfl⟩ ?_
 refine AK.met (AK.rnd ?_)
 refine Qa hC [.n 2,.v .no [] (.b false),.n 8,.K [] [607,608,609]] rfl ⟨tt_,rfl⟩ ?_
 cases h
 refine AK.done ?_
 exact ex_ [] (an_ tt_ (Qas ⟨rfl,rfl,rfl,tt_⟩))
def Qb9 (d:Qc):Option (Qk×Qc):=
 (Qr d).bind fun a=>
 (QbA a.2).bind fun b=>
 (QcC b.2 (Qk.mk a.1 b.1 (QO.mk 0 0 0 0 0) 0)).bind fun c=>
 some (c.2,c.1)
theorem Qiw (j){r}(h:Qb9 j=some r):Qh prog 71 [.loc 607 0 0] [(607,.var (Qb j))] (Qt (.agg (Qd r.1)) [(607,.var (Qb r.2))]):=by
 refine Qh.walk 31 func71 rfl rfl rfl fun C hC=>?_
 obtain⟨c,f,h⟩:=Qf h
 obtain⟨e,g,h⟩:=Qf h
 obtain⟨b,i,h⟩:=Qf h
 refine Qa hC [.n 8,.cm (.fn) [(607,607)] [(607,607)] [] [.d] [(607,.var (Qb c.2))] (.I c.1),.n 1,.cm (.fn) [(607,607)] [(607,607)] [] [.d] [(607,.var (Qb e.2))] (.agg (Q4 e.1)),.v .no [] (.agg (Qd (Qk.mk c.1 e.1 (QO.mk 0 0 0 0 0) 0))),.n 2,.O 3 (.var (Qd (Qk.mk c.1 e.1 (QO.mk 0 0 0 0 0) 0))),.n 9,.K [0,2,3,4] [2,3,607]] rfl ⟨⟨⟨⟨tt_,(Qw _ f)⟩,(Qfc _ g)⟩,rfl⟩,rfl⟩ ?_
 refine AK.draw2 Qo hC mixed [.N,.N,.N,.N,.N,.N,.N,.N,.N,.N,.N,.N,.N,.N,.N,.N,.N,.a (.any (.own 28 6) (some (.var [.loc 3 0 5,.loc 3 0 6,.loc 3 0 7,.loc 3 0 8,.loc 3 0 9,.loc 3 0 10]))) none false,.m (.cm (.fn) [(607,607),(608,28),(609,3)] [(607,607),(28,608),(3,609)] [] [.d,.d] [(607,.var (Qb b.1)),(608,.var [.loc 609 0 5,.loc 609 0 6,.loc 609 0 7,.loc 609 0 8,.loc 609 0 9,.loc 609 0 10]),(609,.var (Qd b.2))] (.tup []) [28])] [] [] [2,3] [2,3,607] rfl rfl rfl ⟨⟨tt_,(fun σ k l hf=>Stp.buildAny rfl rfl (Qz hC.n rfl) (Qo.es rfl) Qil rfl (by decide) (by decide) (Qb8 k rfl) rfl rfl (hf rfl))⟩,⟨⟨tt_,(Qgf _ _ i)⟩,⟨rfl,tt_⟩⟩⟩ rfl (by kernel_rfl) rfl rfl rfl ?_
 refine Qa hC [.O 3 (.var (Qd b.2)),.O 607 (.var (Qb b.1)),.n 3,.v .no [] (.agg (Qd b.2)),.n 1,.O 2 (.var (Qd b.2)),.n 3,.K [2] [2,607]] rfl ⟨⟨⟨⟨tt_,rfl⟩,rfl⟩,rfl⟩,rfl⟩ ?_
 cases h
 exact AK.done (ex_ [_] (an_ (an_ (ex_ _ (ex_ _ (an_ rfl (an_ rfl (Or.inl (an_ (Qo.ag rfl) (an_ (Qo.sz rfl) rfl))))))) tt_) (Qas ⟨rfl,tt_⟩)))
def QdP (a:(Int×Qc)):Option Qc:=
 bif a.2.bad then
 some (Qc.mk a.2.b true)
 else
 some (Qc.mk a.2.b (decide (a.1<0)))
def Q6 (e:(Int×Qc))(d:Int)(a:Qc)(b:(List Qk)):Option ((Int×Qc×(List Qk))⊕((List Qk)×Qc)):=
 bif ((decide (d<e.1))&&(!a.bad))then
 (Qb9 a).bind fun c=>
 (chk (decide (b.length+([c.1]:List Qk).length≤4294967296))).bind fun _=>
 some (.inl ((w64 (d+1)),c.2,(b++([c.1]:List Qk))))
 else
 some (.inr (b,a))
def QdQ (a:(List Qk))(b:Qc):Option ((List Qk)×Qc):=
 some (a,b)
def Qca (a:(Int×Qc))(b:Qc):Option ((List Qk)×Qc):=
 (QH (fun st=>Q6 a st.1 st.2.1 st.2.2) (0,b,([]:List Qk))).bind (fun q=>QdQ q.1 q.2)
def Qa6 (b:Qc):Option ((List Qk)×Qc):=
 (Qr b).bind fun a=>
 (QdP a).bind (fun c=>Qca a c)
theorem QgB (A){r}(h:Qa6 A=some r):Qh prog 70 [.loc 607 0 0,.clo (.func 71) [] []] [(607,.var (Qb A))] (Qt (.own 600 r.1.length) [(600,.arr 11 (r.1.map Qd)),(607,.var (Qb r.2))]):=by
 refine Qh.walk 40 func70 rfl rfl rfl fun C hC=>?_
 obtain⟨c,t,h⟩:=Qf h
 refine Qa hC [.n 8,.cm (.fn) [(607,607)] [(607,607)] [] [.d] [(607,.var (Qb c.2))] (.I c.1),.n 4] rfl ⟨tt_,(Qw _ t)⟩ ?_
 obtain⟨u,w,h⟩:=Qf h
 replace h:Qca c u=some r:=h
 refine AK.meetX (fun σ=>σ=⟨[(0,.loc 607 0 0),(1,.clo (.func 71) [] []),(5,.I c.1)],[(607,.var (Qb u))]⟩) ?_ ?_
 ·replace h:=w
  refine tg_ hC [.n 7] rfl ?_
  refine bg_ h (fun k h=>Qa hC [.S 15 (.b true),.n 6,.O 607 (.var (Qb (Qc.mk c.2.b true))),.n 1,.K [0,1,5] [607]] rfl ⟨(tc_ k),rfl⟩ ?_) fun k h=>Qa hC [.S 15 (.b false),.n 6,.O 607 (.var (Qb (Qc.mk c.2.b (decide (c.1<0))))),.n 1,.K [0,1,5] [607]] rfl ⟨(tc_ k),rfl⟩ ?_
  ·cases h
   exact AK.met rfl
  cases h
  exact AK.met rfl
 rintro σ rfl
 replace h:Qca c u=some r:=h
 refine Qa hC [.n 13,.adopt 6 33 11,.O 33 (.arr 11 (([]:List Qk).map Qd)),.S 6 (.own 33 ([]:List Qk).length),.K [0,1,5,6,7] [33,607]] rfl ⟨⟨tt_,rfl⟩,(congrArg (fun n=>V.own 33 n) (by simp))⟩ ?_
 obtain⟨x,l,h⟩:=Qf h
 refine AK.loop (body:=(fun st=>Q6 c st.1 st.2.1 st.2.2)) (fun st σ=>σ=⟨[(0,.loc 607 0 0),(1,.clo (.func 71) [] []),(5,.I c.1),(6,.own 33 st.2.2.length),(7,.I st.1)],[(33,.arr 11 (st.2.2.map Qd)),(607,.var (Qb st.2.1))]⟩) (fun q e σ=>e=.exit 0∧σ=⟨[(6,.own 33 q.1.length)],[(33,.arr 11 (q.1.map Qd)),(607,.var (Qb q.2))]⟩) l rfl ?_ ?_
 ·rintro ⟨m,i,j⟩ o σ rfl h
  refine tg_ hC [.n 2] rfl ?_
  refine AK.meetX (fun σ=>σ=⟨[(0,.loc 607 0 0),(1,.clo (.func 71) [] []),(5,.I c.1),(6,.own 33 j.length),(7,.I m),(30,.b ((decide (m<c.1))&&(!i.bad)))],[(33,.arr 11 (j.map Qd)),(607,.var (Qb i))]⟩) ?_ ?_
  ·refine tg_ hC [.n 5] rfl ?_
   rcases Qbt (decide (m<c.1))with a | a
   ·refine Qa hC [.S 24 (.b true),.n 7,.S 30 (.b ((decide (m<c.1))&&(!i.bad))),.K [0,1,5,6,7,30] [33,607]] rfl ⟨(tc_ a),(congrArg V.b (Qgq a rfl))⟩ ?_
    exact AK.met rfl
   refine Qa hC [.S 24 (.b false),.n 7,.S 30 (.b ((decide (m<c.1))&&(!i.bad))),.K [0,1,5,6,7,30] [33,607]] rfl ⟨(tc_ a),(congrArg V.b (Qgr a rfl))⟩ ?_
   exact AK.met rfl
  rintro σ rfl
  refine tg_ hC [.n 1] rfl ?_
  rcases QN h with⟨f,h⟩|⟨f,h⟩
  ·obtain⟨g,p,h⟩:=Qf h
   obtain⟨s,h⟩:=QbS h
   refine Qa hC [.T,.n 8,.cm (.clo) [(607,607)] [(607,607)] [] [.d] [(607,.var (Qb g.2))] (.agg (Qd g.1)),.v (.bd []) [] (.sl 11 (([g.1]:List Qk).map Qd)),.app ((j++([g.1]:List Qk)).map Qd) (j++([g.1]:List Qk)).length,.n 9,.K [0,1,5,6,7] [33,607]] rfl ⟨⟨⟨⟨tt_,f⟩,(Qiw _ p)⟩,rfl⟩,⟨Ql,Qcv s Ql,Qby,Qdy Ql⟩⟩ ?_
   cases h
   exact QaP rfl rfl
  refine Qa hC [.F,.n 2,.K [6] [33,607]] rfl ⟨tt_,f⟩ ?_
  cases h
  exact QaL rfl (an_ rfl rfl)
 obtain⟨y,z⟩:=x
 replace h:QdQ y z=some r:=h
 rintro e σ ⟨rfl,rfl⟩
 refine tg_ hC [.n 9,.K [4] [33,607],.ren 33 600] rfl ?_
 cases h
 exact d1_ rfl rfl ⟨rfl,rfl,tt_⟩
def Qak (a:Qc)(c:QS):Option (Int×QS):=
 bif (a.bad||(decide (0<(a.b.length:Int))))then
 some (4,(QS.mk ([]:QMk) ([]:(List Qk)) 0 0))
 else
 some (0,c)
theorem Qgg (a e){r}(h:Qak a e=some r):Qh prog 72 [.loc 607 0 0,.agg (QP e)] [(607,.var (Qb a))] (Qt (.tup [.agg (QP r.2),.I r.1]) [(607,.var (Qb a))]):=by
 refine Qh.walk 21 func72 rfl rfl rfl fun C hC=>?_
 refine tg_ hC [.n 9] rfl ?_
 refine AK.meetX (fun σ=>σ=⟨[(3,.loc 3 0 0),(4,.loc 4 0 0),(18,.b (a.bad||(decide (0<(a.b.length:Int)))))],[(3,.var (QP e)),(4,.var [.lit (.slice none 0 0),.lit (.slice none 0 0),.I 0,.I 0]),(607,.var (Qb a))]⟩) ?_ ?_
 ·refine tg_ hC [.n 6] rfl ?_
  rcases Qbt a.bad with c | c
  ·refine Qa hC [.S 11 (.b true),.n 8,.S 18 (.b (a.bad||(decide (0<(a.b.length:Int))))),.K [3,4,18] [3,4,607]] rfl ⟨(tc_ c),(congrArg V.b (orT c rfl))⟩ ?_
   exact AK.met rfl
  refine Qa hC [.S 11 (.b false),.n 4,.o (.ln a.b.length),.n 3,.S 18 (.b (a.bad||(decide (0<(a.b.length:Int))))),.K [3,4,18] [3,4,607]] rfl ⟨⟨(tc_ c),Ql⟩,(congrArg V.b (orF c rfl))⟩ ?_
  exact AK.met rfl
 rintro σ rfl
 refine tg_ hC [.n 1] rfl ?_
 refine bg_ h (fun d h=>Qa hC [.T,.n 7,.v .no [some 1,some 11,none,none] (.agg (QP (QS.mk ([]:QMk) ([]:(List Qk)) 0 0))),.n 1,.O 4 (.var (QP (QS.mk ([]:QMk) ([]:(List Qk)) 0 0))),.n 5,.K [4,5] [4,607]] rfl ⟨⟨⟨tt_,d⟩,rfl⟩,rfl⟩ ?_) fun d h=>Qa hC [.F,.n 4,.v .no [] (.agg (QP e)),.n 1,.O 4 (.var (QP e)),.n 4,.K [4,5] [4,607]] rfl ⟨⟨⟨tt_,d⟩,rfl⟩,rfl⟩ ?_
 ·cases h
  exact AK.done (ex_ [_,_] (an_ (an_ (ex_ _ (ex_ _ (an_ rfl (an_ rfl (Or.inl (an_ (Qo.ag rfl) (an_ (Qo.sz rfl) rfl))))))) (an_ rfl tt_)) (Qas ⟨rfl,tt_⟩)))
 cases h
 exact AK.done (ex_ [_,_] (an_ (an_ (ex_ _ (ex_ _ (an_ rfl (an_ rfl (Or.inl (an_ (Qo.ag rfl) (an_ (Qo.sz rfl) rfl))))))) (an_ rfl tt_)) (Qas ⟨rfl,tt_⟩)))
def Qa7 (e:(List Int)):Option (Int×QS):=
 (QcA (Qc.mk e false) 0 0).bind fun a=>
 (Qbg a.1).bind fun b=>
 (Qa6 b.2).bind fun c=>
 (Qak c.2 (QS.mk b.1 c.1 a.2.Next a.2.Now)).bind fun d=>
 some (d.1,d.2)
theorem Qew (e){r}(h:Qa7 e=some r):Qh prog 30 [.sl 1 (e.map Qp)] [] (Qt (.tup [.agg (QP r.2),.I r.1]) []):=by
 refine Qh.walk 25 func30 rfl rfl rfl fun C hC=>?_
 obtain⟨a,f,h⟩:=Qf h
 obtain⟨b,g,h⟩:=Qf h
 obtain⟨c,i,h⟩:=Qf h
 obtain⟨j,k,h⟩:=Qf h
 refine Qa hC [.n 9,.v .no [] (.agg (Qb (Qc.mk e false))),.n 14,.o (.any (.own 12 2) (some (.var [.loc 5 0 2,.loc 5 0 3]))),.cm (.fn) [(607,8),(608,12),(609,5)] [(8,607),(12,608),(5,609)] [] [.d,.d] [(607,.var (Qb a.1)),(608,.var [.loc 609 0 2,.loc 609 0 3]),(609,.var (QP a.2))] (.tup []),.n 5,.cm (.fn) [(607,8)] [(15,600),(8,607)] [] [.d,.d] [(600,.arr 1 (b.1.map QG)),(607,.var (Qb b.2))] (.own 600 b.1.length),.n 2,.O 5 (.var [.own 15 b.1.length,.sl 11 (a.2.Items.map Qd),.I a.2.Next,.I a.2.Now]),.n 5,.cm (.fn) [(607,8)] [(18,600),(8,607)] [] [.d,.d] [(600,.arr 11 (c.1.map Qd)),(607,.var (Qb c.2))] (.own 600 c.1.length),.n 2,.O 5 (.var [.own 15 b.1.length,.own 18 c.1.length,.I a.2.Next,.I a.2.Now]),.n 6,.frz 15 (b.1.map QG) [15,21] [5],.frz 18 (c.1.map Qd) [18,21] [5],.cm (.fn) [(607,8)] [(8,607)] [] [.d,.d] [(607,.var (Qb c.2))] (.tup [.agg (QP j.2),.I j.1]),.n 3,.O 2 (.var (QP j.2)),.n 4,.K [2,3] [2]] rfl ⟨⟨⟨⟨⟨⟨⟨⟨⟨⟨⟨tt_,rfl⟩,(fun σ l m hf=>Stp.buildAny rfl rfl (Qz hC.n rfl) (Qo.es rfl) Qil rfl (by decide) (by decide) (Qb8 l rfl) rfl rfl (hf rfl))⟩,(Qgd _ _ _ f)⟩,(QgN _ g)⟩,rfl⟩,(QgB _ i)⟩,rfl⟩,⟨⟨⟨tt_,(Qbc Ql)⟩,⟨(Qbc Ql),⟨tt_,tt_⟩⟩⟩,⟨(Qbc Ql),⟨tt_,tt_⟩⟩⟩⟩,⟨⟨⟨tt_,(Qbc Ql)⟩,⟨(Qbc Ql),tt_⟩⟩,⟨(Qbc Ql),tt_⟩⟩⟩,(Qgg _ _ k)⟩,rfl⟩ ?_
 cases h
 exact AK.done (ex_ [_,_] (an_ (an_ (ex_ _ (ex_ _ (an_ rfl (an_ rfl (Or.inl (an_ (Qo.ag rfl) (an_ (Qo.sz rfl) rfl))))))) (an_ rfl tt_)) (Qas tt_)))
def QhO (a:Qk)(b:Int):Option Bool:=
 some (a.Id==b)
theorem Qjf (c a){r}(h:QhO c a=some r):Qh prog 43 [.agg (Qd c),.loc 607 0 0] [(607,.var (Qs a))] (Qt (.b r) [(607,.var (Qs a))]):=by
 refine Qh.walk 8 func43 rfl rfl rfl fun C hC=>?_
 refine tg_ hC [.n 16] rfl ?_
 cases h
 exact d1_ rfl rfl ⟨rfl,tt_⟩
def Qa8 (c:(List Qk))(d:Int)(a:Int):Option (Int⊕(Int⊕Unit)):=
 bif (decide (a<(c.length:Int)))then
 (idx c a).bind fun e=>
 (QhO e d).bind fun b=>
 bif b then
 some (.inr (.inl a))
 else
 some (.inl (w64 (a+1)))
 else
 some (.inr (.inr ()))
def Qa9 (a:Int):Option Int:=
 some a
def Qba : Option Int:=
 some (-1)
def Qbm (a:(List Qk))(b:Int):Option Int:=
 (QH (fun st=>Qa8 a b st) 0).bind (Sum.elim (fun q=>Qa9 q) (fun q=>Qba))
theorem QcS (g c){r}(h:Qbm g c=some r):Qh prog 37 [.sl 11 (g.map Qd),.clo (.func 43) [] [.loc 607 0 0]] [(607,.var (Qs c))] (Qt (.I r) [(607,.var (Qs c))]):=by
 refine Qh.walk 19 func37 rfl rfl rfl fun C hC=>?_
 refine Qa hC [.n 9,.o (.ln g.length),.n 4,.K [0,1,7,8] [607]] rfl ⟨tt_,Ql⟩ ?_
 obtain⟨k,i,h⟩:=Qf h
 refine AK.loop (body:=(fun st=>Qa8 g c st)) (fun st σ=>σ=⟨[(0,.sl 11 (g.map Qd)),(1,.clo (.func 43) [] [.loc 607 0 0]),(7,.I (g.length:Int)),(8,.I st)],[(607,.var (Qs c))]⟩) (Sum.elim (fun q e σ=>e=.ret∧σ=⟨[(4,.I q)],[(607,.var (Qs c))]⟩) (fun q e σ=>e=.exit 0∧σ=⟨[],[(607,.var (Qs c))]⟩)) i rfl ?_ ?_
 ·rintro t o σ rfl h
  refine tg_ hC [.n 6] rfl ?_
  rcases QN h with⟨f,h⟩|⟨f,h⟩
  ·obtain⟨p,l,h⟩:=Qf h
   obtain⟨m,j,h⟩:=Qf h
   refine Qa hC [.T,.n 15,.o (.row (Qd p)),.v .no [] (.agg (Qd p)),.cm (.clo) [(607,607)] [(607,607)] [] [.d,.d] [(607,.var (Qs c))] (.b m),.n 2] rfl ⟨⟨⟨⟨tt_,f⟩,(Qa5 l)⟩,rfl⟩,(Qjf _ _ j)⟩ ?_
   refine bg_ h (fun a h=>Qa hC [.T,.n 9,.K [4] [607]] rfl ⟨tt_,a⟩ ?_) fun a h=>Qa hC [.F,.n 7,.K [0,1,7,8] [607]] rfl ⟨tt_,a⟩ ?_
   ·cases h
    exact QfP rfl (an_ rfl rfl)
   cases h
   exact QaP rfl rfl
  refine Qa hC [.F,.n 2,.K [] [607]] rfl ⟨tt_,f⟩ ?_
  cases h
  exact QaL rfl (an_ rfl rfl)
 rcases k with(s | _)
 ·replace h:Qa9 s=some r:=h
  rintro e σ ⟨rfl,rfl⟩
  refine tg_ hC [.n 2] rfl ?_
  cases h
  exact d1_ rfl rfl ⟨rfl,tt_⟩
 replace h:Qba=some r:=h
 rintro e σ ⟨rfl,rfl⟩
 refine tg_ hC [.n 8] rfl ?_
 cases h
 exact d1_ rfl rfl ⟨rfl,tt_⟩
def QgC (b:(List Qk))(a:Int):Option Int:=
 (Qbm b a).bind fun c=>
 some c
theorem Qg6 (c a){r}(h:QgC c a=some r):Qh prog 16 [.sl 11 (c.map Qd),.I a] [] (Qt (.I r) []):=by
 refine Qh.walk 8 func16 rfl rfl rfl fun C hC=>?_
 obtain⟨e,b,h⟩:=Qf h
 refine Qa hC [.n 10,.cm (.fn) [(607,3)] [(3,607)] [] [.d,.d] [(607,.var (Qs a))] (.I e),.n 4] rfl ⟨tt_,(QcS _ _ b)⟩ ?_
 cases h
 exact d1_ rfl rfl tt_
def Qjm  : Option ((List (Int×(Option Nat)))×(List Qi)):=
 some (([]:(List (Int×(Option Nat)))),([]:List Qi))
theorem Qku (gA:Nat→Nat)  {r:((List (Int×(Option Nat)))×(List Qi))}(h:Qjm  = some r):Qh prog 44 [] [] (Qt (.loc 3 0 0) [(1,.map (QJ V.I (QM gA) r.1)),(3,.var [.lit (.slice none 0 0),.map 1]),(601,.tbl gA 3 (r.2.map Qj))]):=by
 refine Qh.walk 4 func44 rfl rfl rfl fun C hC=>?_
 refine tg_ hC [.n 7] rfl ?_
 refine AK.newTbl 601 3 gA rfl rfl ?_
 refine Qa hC [.O 601 (.tbl gA 3 (([]:List Qi).map Qj)),.n 1,.O 1 (.map (QJ V.I (QM gA) ([]:(List (Int×(Option Nat)))))),.v .no [] (.agg [.lit (.slice none 0 0),.map 1]),.n 5] rfl ⟨⟨⟨tt_,rfl⟩,rfl⟩,rfl⟩ ?_
 cases h
 exact d1_ rfl rfl ⟨rfl,rfl,rfl,tt_⟩
def Qd7 (a:(List (Option Nat)))(b:(List (Int×(Option Nat))))(c:(List Qi)):Option Int:=
 some (a.length:Int)
theorem QeV (gA:Nat→Nat)(a:(List (Option Nat)))(b:(List (Int×(Option Nat))))(c:(List Qi)){r:Int}(h:Qd7 a b c=some r):Qh prog 84 [.loc 607 0 0] [(607,.var [.own 605 a.length,.map 608]),(605,.arr 1 (a.map (QC gA))),(608,.map (QJ V.I (QM gA) b)),(609,.tbl gA 3 (c.map Qj))] (Qt (.I r) [(605,.arr 1 (a.map (QC gA))),(607,.var [.own 605 a.length,.map 608]),(608,.map (QJ V.I (QM gA) b)),(609,.tbl gA 3 (c.map Qj))]):=by
 refine Qh.walk 8 func84 rfl rfl rfl fun C hC=>?_
 refine tg_ hC [.n 16] rfl ?_
 cases h
 exact d1_ rfl rfl ⟨rfl,rfl,rfl,rfl,tt_⟩
def QeW (a:(List (Option Nat)))(f:(List (Int×(Option Nat))))(b:(Option Nat))(c:(List Qi)):Option ((List (Option Nat))×(List Qi)):=
 (b).bind fun d=>
 (c[d]?).bind fun e=>
 (chk (decide (a.length+([b]:List (Option Nat)).length≤4294967296))).bind fun _=>
 some ((a++([b]:List (Option Nat))),(c.set d (Qi.mk e.id e.at_ (a.length:Int))))
theorem QgO (gA:Nat→Nat)(a:(List (Option Nat)))(d:(List (Int×(Option Nat))))(c:(Option Nat))(e:(List Qi)){r:((List (Option Nat))×(List Qi))}(h:QeW a d c e=some r):Qh prog 128 [.loc 607 0 0,.ifc 116 (QM gA c)] [(607,.var [.own 605 a.length,.map 608]),(605,.arr 1 (a.map (QC gA))),(608,.map (QJ V.I (QM gA) d)),(609,.tbl gA 3 (e.map Qj))] (Qt (.tup []) [(605,.arr 1 (r.1.map (QC gA))),(607,.var [.own 605 r.1.length,.map 608]),(608,.map (QJ V.I (QM gA) d)),(609,.tbl gA 3 (r.2.map Qj))]):=by
 refine Qh.walk 22 func128 rfl rfl rfl fun C hC=>?_
 obtain⟨f,g,h⟩:=Qf h
 obtain⟨l,i,h⟩:=Qf h
 obtain⟨j,h⟩:=QbS h
 refine Qa hC [.n 14,.o (.any (QaD gA 0 f) none),.o (.any (QaD gA 2 f) none),.x (fun σ=>σ.set 609 (.tbl gA 3 ((e.set f (Qi.mk l.id l.at_ (a.length:Int))).map Qj))),.n 8,.v (.bd []) [] (.sl 1 (([c]:List (Option Nat)).map (QC gA))),.app ((a++([c]:List (Option Nat))).map (QC gA)) (a++([c]:List (Option Nat))).length,.n 2,.O 607 (.var [.own 605 (a++([c]:List (Option Nat))).length,.map 608]),.n 1,.K [] [605,607,608,609]] rfl ⟨⟨⟨⟨⟨⟨tt_,(fun σ k m _=>Stp.nilCheckP rfl rfl (Qz hC.n rfl) (k _ _ rfl) g)⟩,(fun σ k m _=>Stp.fieldP rfl rfl (Qz hC.n rfl) (k _ _ rfl) (Qo.fo rfl rfl) rfl)⟩,(Stp.storeP (b:=609) rfl rfl rfl rfl (QT i) rfl rfl rfl rfl (Qo.sz rfl) (QiJ rfl))⟩,rfl⟩,⟨Ql,Qcv j Ql,Qby,Qdy Ql⟩⟩,rfl⟩ ?_
 cases h
 refine AK.done ?_
 exact ex_ [] (an_ tt_ (Qas ⟨rfl,rfl,rfl,rfl,tt_⟩))
def Qds (a:(List (Option Nat)))(b:(List Qi)):Option Int:=
 some (a.length:Int)
theorem Qec (gA:Nat→Nat)(a:(List (Option Nat)))(b:(List Qi)){r:Int}(h:Qds a b=some r):Qh prog 124 [.own 607 a.length] [(607,.arr 1 (a.map (QC gA))),(608,.tbl gA 3 (b.map Qj))] (Qt (.I r) [(607,.arr 1 (a.map (QC gA))),(608,.tbl gA 3 (b.map Qj))]):=by
 refine Qh.walk 5 func124 rfl rfl rfl fun C hC=>?_
 refine tg_ hC [.n 13] rfl ?_
 cases h
 exact d1_ rfl rfl ⟨rfl,rfl,tt_⟩
def QgP (a:(List (Option Nat)))(c:Int)(b:(List Qi))(d:Int):Option Bool:=
 (idx a c).bind fun u=>
 (u).bind fun v=>
 (b[v]?).bind fun e=>
 (idx a d).bind fun f=>
 (f).bind fun g=>
 (b[g]?).bind fun h=>
 bif (decide (e.at_<h.at_))then
 some true
 else
 (idx a c).bind fun i=>
 (i).bind fun j=>
 (b[j]?).bind fun k=>
 (idx a d).bind fun l=>
 (l).bind fun m=>
 (b[m]?).bind fun n=>
 bif (k.at_==n.at_)then
 (idx a c).bind fun o=>
 (o).bind fun p=>
 (b[p]?).bind fun q=>
 (idx a d).bind fun r=>
 (r).bind fun s=>
 (b[s]?).bind fun t=>
 some (decide (q.id<t.id))
 else
 some false
def Qcn (a:Bool):Option Bool:=
 some a
def QbZ (a:(List (Option Nat)))(b:Int)(c:Int)(d:(List Qi)):Option Bool:=
 (QgP a b d c).bind (fun e=>Qcn e)
theorem Qco (gA:Nat→Nat)(H:(List (Option Nat)))(i2:Int)(k3:Int)(Y:(List Qi)){r:Bool}(h:QbZ H i2 k3 Y=some r):Qh prog 125 [.own 607 H.length,.I i2,.I k3] [(607,.arr 1 (H.map (QC gA))),(608,.tbl gA 3 (Y.map Qj))] (Qt (.b r) [(607,.arr 1 (H.map (QC gA))),(608,.tbl gA 3 (Y.map Qj))]):=by
 refine Qh.walk 56 func125 rfl rfl rfl fun C hC=>?_
 refine tg_ hC [.n 6] rfl ?_
 obtain⟨Z,a0,h⟩:=Qf h
 replace h:Qcn Z=some r:=h
 refine AK.meetX (fun σ=>σ=⟨[(6,.b Z)],[(607,.arr 1 (H.map (QC gA))),(608,.tbl gA 3 (Y.map Qj))]⟩) ?_ ?_
 ·replace h:=a0
  obtain⟨e8,j,h⟩:=Qf h
  obtain⟨G,B,h⟩:=Qf h
  obtain⟨D,l,h⟩:=Qf h
  obtain⟨E,e,h⟩:=Qf h
  obtain⟨k,o,h⟩:=Qf h
  obtain⟨F,p,h⟩:=Qf h
  refine tg_ hC [.K [0,1,2,6] [607,608]] rfl ?_
  rcases QN h with⟨f,h⟩|⟨f,h⟩
  ·refine AK.draw2 Qo hC mixed [.N,.N,.N,.a (.row ((QC gA) e8)) none false,.a (.any (QaD gA 0 G) none) none false,.a (.any (QaD gA 1 G) none) none false,.a (.any (.I D.at_) none) none false,.N,.N,.N,.a (.row ((QC gA) E)) none false,.a (.any (QaD gA 0 k) none) none false,.a (.any (QaD gA 1 k) none) none false,.a (.any (.I F.at_) none) none false,.N,.a .no (some ([],.b true)) false,.N,.N,.N,.N,.N,.N,.N,.N,.N,.N,.N,.N,.N,.N,.N,.N,.N,.N,.N,.N,.N,.N,.N,.N,.N,.N,.N,.N,.N,.N,.N,.N,.N,.m .s] [] [] [6] [607,608] rfl rfl rfl ⟨⟨⟨⟨⟨⟨⟨⟨⟨⟨⟨tt_,(Qbr j rfl)⟩,(QT (QbH j).2)⟩,(fun σ c d _=>Stp.nilCheckP rfl rfl (Qz hC.n rfl) (c _ _ rfl) B)⟩,(fun σ c d _=>Stp.fieldP rfl rfl (Qz hC.n rfl) (c _ _ rfl) (Qo.fo rfl rfl) rfl)⟩,(fun σ c d _=>Stp.loadP (b:=608) rfl rfl (Qz hC.n rfl) (c _ _ rfl) (d _ _ rfl) (Qo.ag rfl) (QT l) rfl)⟩,(Qbr e rfl)⟩,(QT (QbH e).2)⟩,(fun σ c d _=>Stp.nilCheckP rfl rfl (Qz hC.n rfl) (c _ _ rfl) o)⟩,(fun σ c d _=>Stp.fieldP rfl rfl (Qz hC.n rfl) (c _ _ rfl) (Qo.fo rfl rfl) rfl)⟩,(fun σ c d _=>Stp.loadP (b:=608) rfl rfl (Qz hC.n rfl) (c _ _ rfl) (d _ _ rfl) (Qo.ag rfl) (QT p) rfl)⟩,(cb_ f)⟩ rfl (by kernel_rfl) rfl rfl rfl ?_
   refine tg_ hC [.K [6] [607,608]] rfl ?_
   cases h
   exact AK.met rfl
  obtain⟨J,g,h⟩:=Qf h
  obtain⟨t,v,h⟩:=Qf h
  obtain⟨L,w,h⟩:=Qf h
  obtain⟨M,i,h⟩:=Qf h
  obtain⟨u,x,h⟩:=Qf h
  obtain⟨O,y,h⟩:=Qf h
  rcases QN h with⟨q,h⟩|⟨q,h⟩
  ·obtain⟨a1,z,h⟩:=Qf h
   obtain⟨P,S,h⟩:=Qf h
   obtain⟨a2,T,h⟩:=Qf h
   obtain⟨a3,A,h⟩:=Qf h
   obtain⟨U,W,h⟩:=Qf h
   obtain⟨a4,X,h⟩:=Qf h
   refine AK.draw2 Qo hC mixed [.N,.N,.N,.a (.row ((QC gA) e8)) none false,.a (.any (QaD gA 0 G) none) none false,.a (.any (QaD gA 1 G) none) none false,.a (.any (.I D.at_) none) none false,.N,.N,.N,.a (.row ((QC gA) E)) none false,.a (.any (QaD gA 0 k) none) none false,.a (.any (QaD gA 1 k) none) none false,.a (.any (.I F.at_) none) none false,.N,.a .no (some ([],.b false)) false,.N,.N,.N,.a (.row ((QC gA) J)) none false,.a (.any (QaD gA 0 t) none) none false,.a (.any (QaD gA 1 t) none) none false,.a (.any (.I L.at_) none) none false,.N,.N,.N,.a (.row ((QC gA) M)) none false,.a (.any (QaD gA 0 u) none) none false,.a (.any (QaD gA 1 u) none) none false,.a (.any (.I O.at_) none) none false,.N,.a .no (some ([],.b true)) false,.N,.N,.N,.a (.row ((QC gA) a1)) none false,.a (.any (QaD gA 0 P) none) none false,.a (.any (QaD gA 0 P) none) none false,.a (.any (.I a2.id) none) none false,.N,.N,.N,.a (.row ((QC gA) a3)) none false,.a (.any (QaD gA 0 U) none) none false,.a (.any (QaD gA 0 U) none) none false,.a (.any (.I a4.id) none) none false,.N,.N,.N,.m .s] [] [] [6] [607,608] rfl rfl rfl ⟨⟨⟨⟨⟨⟨⟨⟨⟨⟨⟨⟨⟨⟨⟨⟨⟨⟨⟨⟨⟨⟨⟨⟨⟨⟨⟨⟨⟨⟨⟨⟨tt_,(Qbr j rfl)⟩,(QT (QbH j).2)⟩,(fun σ c d _=>Stp.nilCheckP rfl rfl (Qz hC.n rfl) (c _ _ rfl) B)⟩,(fun σ c d _=>Stp.fieldP rfl rfl (Qz hC.n rfl) (c _ _ rfl) (Qo.fo rfl rfl) rfl)⟩,(fun σ c d _=>Stp.loadP (b:=608) rfl rfl (Qz hC.n rfl) (c _ _ rfl) (d _ _ rfl) (Qo.ag rfl) (QT l) rfl)⟩,(Qbr e rfl)⟩,(QT (QbH e).2)⟩,(fun σ c d _=>Stp.nilCheckP rfl rfl (Qz hC.n rfl) (c _ _ rfl) o)⟩,(fun σ c d _=>Stp.fieldP rfl rfl (Qz hC.n rfl) (c _ _ rfl) (Qo.fo rfl rfl) rfl)⟩,(fun σ c d _=>Stp.loadP (b:=608) rfl rfl (Qz hC.n rfl) (c _ _ rfl) (d _ _ rfl) (Qo.ag rfl) (QT p) rfl)⟩,(cb_ f)⟩,(Qbr g rfl)⟩,(QT (QbH g).2)⟩,(fun σ c d _=>Stp.nilCheckP rfl rfl (Qz hC.n rfl) (c _ _ rfl) v)⟩,(fun σ c d _=>Stp.fieldP rfl rfl (Qz hC.n rfl) (c _ _ rfl) (Qo.fo rfl rfl) rfl)⟩,(fun σ c d _=>Stp.loadP (b:=608) rfl rfl (Qz hC.n rfl) (c _ _ rfl) (d _ _ rfl) (Qo.ag rfl) (QT w) rfl)⟩,(Qbr i rfl)⟩,(QT (QbH i).2)⟩,(fun σ c d _=>Stp.nilCheckP rfl rfl (Qz hC.n rfl) (c _ _ rfl) x)⟩,(fun σ c d _=>Stp.fieldP rfl rfl (Qz hC.n rfl) (c _ _ rfl) (Qo.fo rfl rfl) rfl)⟩,(fun σ c d _=>Stp.loadP (b:=608) rfl rfl (Qz hC.n rfl) (c _ _ rfl) (d _ _ rfl) (Qo.ag rfl) (QT y) rfl)⟩,(cb_ q)⟩,(Qbr z rfl)⟩,(QT (QbH z).2)⟩,(fun σ c d _=>Stp.nilCheckP rfl rfl (Qz hC.n rfl) (c _ _ rfl) S)⟩,(fun σ c d _=>Stp.fieldP rfl rfl (Qz hC.n rfl) (c _ _ rfl) (Qo.fo rfl rfl) rfl)⟩,(fun σ c d _=>Stp.loadP (b:=608) rfl rfl (Qz hC.n rfl) (c _ _ rfl) (d _ _ rfl) (Qo.ag rfl) (QT T) rfl)⟩,(Qbr A rfl)⟩,(QT (QbH A).2)⟩,(fun σ c d _=>Stp.nilCheckP rfl rfl (Qz hC.n rfl) (c _ _ rfl) W)⟩,(fun σ c d _=>Stp.fieldP rfl rfl (Qz hC.n rfl) (c _ _ rfl) (Qo.fo rfl rfl) rfl)⟩,(fun σ c d _=>Stp.loadP (b:=608) rfl rfl (Qz hC.n rfl) (c _ _ rfl) (d _ _ rfl) (Qo.ag rfl) (QT X) rfl)⟩ rfl (by kernel_rfl) rfl rfl rfl ?_
   refine tg_ hC [.K [6] [607,608]] rfl ?_
   cases h
   exact AK.met rfl
  refine AK.draw2 Qo hC mixed [.N,.N,.N,.a (.row ((QC gA) e8)) none false,.a (.any (QaD gA 0 G) none) none false,.a (.any (QaD gA 1 G) none) none false,.a (.any (.I D.at_) none) none false,.N,.N,.N,.a (.row ((QC gA) E)) none false,.a (.any (QaD gA 0 k) none) none false,.a (.any (QaD gA 1 k) none) none false,.a (.any (.I F.at_) none) none false,.N,.a .no (some ([],.b false)) false,.N,.N,.N,.a (.row ((QC gA) J)) none false,.a (.any (QaD gA 0 t) none) none false,.a (.any (QaD gA 1 t) none) none false,.a (.any (.I L.at_) none) none false,.N,.N,.N,.a (.row ((QC gA) M)) none false,.a (.any (QaD gA 0 u) none) none false,.a (.any (QaD gA 1 u) none) none false,.a (.any (.I O.at_) none) none false,.N,.a .no (some ([],.b false)) false,.N,.N,.N,.N,.N,.N,.N,.N,.N,.N,.N,.N,.N,.N,.N,.N,.N,.m .s] [] [] [6] [607,608] rfl rfl rfl ⟨⟨⟨⟨⟨⟨⟨⟨⟨⟨⟨⟨⟨⟨⟨⟨⟨⟨⟨⟨⟨⟨tt_,(Qbr j rfl)⟩,(QT (QbH j).2)⟩,(fun σ c d _=>Stp.nilCheckP rfl rfl (Qz hC.n rfl) (c _ _ rfl) B)⟩,(fun σ c d _=>Stp.fieldP rfl rfl (Qz hC.n rfl) (c _ _ rfl) (Qo.fo rfl rfl) rfl)⟩,(fun σ c d _=>Stp.loadP (b:=608) rfl rfl (Qz hC.n rfl) (c _ _ rfl) (d _ _ rfl) (Qo.ag rfl) (QT l) rfl)⟩,(Qbr e rfl)⟩,(QT (QbH e).2)⟩,(fun σ c d _=>Stp.nilCheckP rfl rfl (Qz hC.n rfl) (c _ _ rfl) o)⟩,(fun σ c d _=>Stp.fieldP rfl rfl (Qz hC.n rfl) (c _ _ rfl) (Qo.fo rfl rfl) rfl)⟩,(fun σ c d _=>Stp.loadP (b:=608) rfl rfl (Qz hC.n rfl) (c _ _ rfl) (d _ _ rfl) (Qo.ag rfl) (QT p) rfl)⟩,(cb_ f)⟩,(Qbr g rfl)⟩,(QT (QbH g).2)⟩,(fun σ c d _=>Stp.nilCheckP rfl rfl (Qz hC.n rfl) (c _ _ rfl) v)⟩,(fun σ c d _=>Stp.fieldP rfl rfl (Qz hC.n rfl) (c _ _ rfl) (Qo.fo rfl rfl) rfl)⟩,(fun σ c d _=>Stp.loadP (b:=608) rfl rfl (Qz hC.n rfl) (c _ _ rfl) (d _ _ rfl) (Qo.ag rfl) (QT w) rfl)⟩,(Qbr i rfl)⟩,(QT (QbH i).2)⟩,(fun σ c d _=>Stp.nilCheckP rfl rfl (Qz hC.n rfl) (c _ _ rfl) x)⟩,(fun σ c d _=>Stp.fieldP rfl rfl (Qz hC.n rfl) (c _ _ rfl) (Qo.fo rfl rfl) rfl)⟩,(fun σ c d _=>Stp.loadP (b:=608) rfl rfl (Qz hC.n rfl) (c _ _ rfl) (d _ _ rfl) (Qo.ag rfl) (QT y) rfl)⟩,(cb_ q)⟩ rfl (by kernel_rfl) rfl rfl rfl ?_
  refine tg_ hC [.K [6] [607,608]] rfl ?_
  cases h
  exact AK.met rfl
 rintro σ rfl
 replace h:Qcn Z=some r:=h
 refine tg_ hC [.n 2] rfl ?_
 cases h
 exact d1_ rfl rfl ⟨rfl,rfl,tt_⟩
def Qb0 (c:(List (Option Nat)))(a:Int)(d:Int)(i:(List Qi)):Option ((List (Option Nat))×(List Qi)):=
 (idx c d).bind fun h=>
 (idx c a).bind fun j=>
 (idx c a).bind fun n=>
 (idx (c.set a.toNat h) d).bind fun m=>
 (idx ((c.set a.toNat h).set d.toNat j) a).bind fun k=>
 (idx ((c.set a.toNat h).set d.toNat j) d).bind fun l=>
 (k).bind fun e=>
 (i[e]?).bind fun b=>
 (l).bind fun f=>
 ((i.set e (Qi.mk b.id b.at_ a))[f]?).bind fun g=>
 some (((c.set a.toNat h).set d.toNat j),((i.set e (Qi.mk b.id b.at_ a)).set f (Qi.mk g.id g.at_ d)))
theorem Qcp (gA:Nat→Nat)(o:(List (Option Nat)))(l:Int)(y:Int)(z:(List Qi)){r:((List (Option Nat))×(List Qi))}(h:Qb0 o l y z=some r):Qh prog 126 [.own 607 o.length,.I l,.I y] [(607,.arr 1 (o.map (QC gA))),(608,.tbl gA 3 (z.map Qj))] (Qt (.tup []) [(607,.arr 1 (r.1.map (QC gA))),(608,.tbl gA 3 (r.2.map Qj))]):=by
 refine Qh.walk 34 func126 rfl rfl rfl fun C hC=>?_
 obtain⟨A,p,h⟩:=Qf h
 obtain⟨F,q,h⟩:=Qf h
 obtain⟨G,s,h⟩:=Qf h
 obtain⟨B,f,h⟩:=Qf h
 refine tg_ hC [.n 1,.K [0,1,2] [607,608]] rfl ?_
 refine AK.draw2 Qo hC mixed [.N,.N,.a .no none true,.a .no none true,.N,.N,.N,.a (.row ((QC gA) A)) none false,.N,.N,.N,.a (.row ((QC gA) F)) none false,.N,.m (.st ((QC gA) G) ((o.set l.toNat A).map (QC gA))),.N,.m (.st ((QC gA) B) (((o.set l.toNat A).set y.toNat F).map (QC gA)))] [0,1,2] [608] [0,1,2] [607,608] rfl rfl rfl ⟨⟨⟨⟨⟨⟨⟨⟨tt_,(Qbr p rfl)⟩,(QT (QbH p).2)⟩,(Qbr q rfl)⟩,(QT (QbH q).2)⟩,(Qbr s rfl)⟩,⟨(QT (QbH s).2),QiJ rfl⟩⟩,(Qbr f (by simp))⟩,⟨(QT (QbH f).2),QiJ rfl⟩⟩ rfl (by kernel_rfl) rfl rfl rfl ?_
 obtain⟨D,g,h⟩:=Qf h
 obtain⟨E,i,h⟩:=Qf h
 obtain⟨d,t,h⟩:=Qf h
 obtain⟨e,u,h⟩:=Qf h
 obtain⟨j,v,h⟩:=Qf h
 obtain⟨w,x,h⟩:=Qf h
 refine tg_ hC [.n 1,.K [0,1,2] [607,608]] rfl ?_
 refine AK.draw2 Qo hC mixed [.N,.N,.N,.a (.row ((QC gA) D)) none false,.N,.N,.N,.a (.row ((QC gA) E)) none false,.N,.a .no none true,.a (.any (QaD gA 0 d) none) none false,.a (.any (QaD gA 2 d) none) none false,.m (.any ⟨[],[(608,.tbl gA 3 ((z.set d (Qi.mk e.id e.at_ l)).map Qj))],none⟩),.a (.any (QaD gA 0 j) none) none false,.a (.any (QaD gA 2 j) none) none false,.m (.any ⟨[],[(608,.tbl gA 3 (((z.set d (Qi.mk e.id e.at_ l)).set j (Qi.mk w.id w.at_ y)).map Qj))],none⟩)] [0,1,2] [607] [] [607,608] rfl rfl rfl ⟨⟨⟨⟨⟨⟨⟨⟨⟨⟨tt_,(Qbr g (by simp))⟩,(QT (QbH g).2)⟩,(Qbr i (by simp))⟩,(QT (QbH i).2)⟩,(fun σ c k _=>Stp.nilCheckP rfl rfl (Qz hC.n rfl) (c _ _ rfl) t)⟩,(fun σ c k _=>Stp.fieldP rfl rfl (Qz hC.n rfl) (c _ _ rfl) (Qo.fo rfl rfl) rfl)⟩,(fun σ c k=>Stp.storeP (b:=608) rfl rfl (c _ _ rfl) (k _ _ rfl) (QT u) rfl (c _ _ rfl) rfl rfl (Qo.sz rfl) (QiJ rfl))⟩,(fun σ c k _=>Stp.nilCheckP rfl rfl (Qz hC.n rfl) (c _ _ rfl) v)⟩,(fun σ c k _=>Stp.fieldP rfl rfl (Qz hC.n rfl) (c _ _ rfl) (Qo.fo rfl rfl) rfl)⟩,(fun σ c k=>Stp.storeP (b:=608) rfl rfl (c _ _ rfl) (k _ _ rfl) (QT x) rfl (c _ _ rfl) rfl rfl (Qo.sz rfl) (QiJ rfl))⟩ rfl (by kernel_rfl) rfl rfl rfl ?_
 refine tg_ hC [.K [] [607,608]] rfl ?_
 cases h
 refine AK.done ?_
 exact ex_ [] (an_ tt_ (Qas ⟨rfl,rfl,tt_⟩))
def Qhy (a:Int)(b:(List (Option Nat)))(d:(List Qi)):Option Bool:=
 bif ((w64 (Int.tdiv (w64 (a-1)) 2))==a)then
 some true
 else
 (QbZ b a (w64 (Int.tdiv (w64 (a-1)) 2)) d).bind fun c=>
 some (!c)
def QcD (e:(List Qi))(a:(List (Option Nat)))(c:Int)(d:Bool):Option ((Int×(List Qi)×(List (Option Nat)))⊕((List Qi)×(List (Option Nat)))):=
 bif d then
 some (.inr (e,a))
 else
 (Qb0 a (w64 (Int.tdiv (w64 (c-1)) 2)) c e).bind fun b=>
 (chk (decide (b.1.length=a.length))).bind fun _=>
 some (.inl ((w64 (Int.tdiv (w64 (c-1)) 2)),b.2,b.1))
def Qed (c:Int)(d:(List Qi))(a:(List (Option Nat))):Option ((Int×(List Qi)×(List (Option Nat)))⊕((List Qi)×(List (Option Nat)))):=
 (Qhy c a d).bind (fun b=>QcD d a c b)
def Qee (a:(List Qi))(b:(List (Option Nat))):Option ((List (Option Nat))×(List Qi)):=
 some (b,a)
def Qfe (a:(List (Option Nat)))(d:(List (Int×(Option Nat))))(b:Int)(c:(List Qi)):Option ((List (Option Nat))×(List Qi)):=
 (QH (fun st=>Qed st.1 st.2.1 st.2.2) (b,c,a)).bind (fun q=>Qee q.1 q.2)
theorem Qhz (gA:Nat→Nat)(v:(List (Option Nat)))(j:(List (Int×(Option Nat))))(A:Int)(B:(List Qi)){r:((List (Option Nat))×(List Qi))}(h:Qfe v j A B=some r):Qh prog 104 [.ifc 120 (.loc 607 0 0),.I A] [(607,.var [.own 605 v.length,.map 608]),(605,.arr 1 (v.map (QC gA))),(608,.map (QJ V.I (QM gA) j)),(609,.tbl gA 3 (B.map Qj))] (Qt (.tup []) [(605,.arr 1 (r.1.map (QC gA))),(607,.var [.own 605 r.1.length,.map 608]),(608,.map (QJ V.I (QM gA) j)),(609,.tbl gA 3 (r.2.map Qj))]):=by
 refine Qh.walk 23 func104 rfl rfl rfl fun C hC=>?_
 refine tg_ hC [.n 1,.K [0,1] [605,607,608,609]] rfl ?_
 obtain⟨w,k,h⟩:=Qf h
 refine AK.loop (body:=(fun st=>Qed st.1 st.2.1 st.2.2)) (fun st σ=>σ=⟨[(0,.ifc 120 (.loc 607 0 0)),(1,.I st.1)],[(605,.arr 1 (st.2.2.map (QC gA))),(607,.var [.own 605 st.2.2.length,.map 608]),(608,.map (QJ V.I (QM gA) j)),(609,.tbl gA 3 (st.2.1.map Qj))]⟩) (fun q e σ=>e=.exit 0∧σ=⟨[],[(605,.arr 1 (q.2.map (QC gA))),(607,.var [.own 605 q.2.length,.map 608]),(608,.map (QJ V.I (QM gA) j)),(609,.tbl gA 3 (q.1.map Qj))]⟩) k rfl ?_ ?_
 ·rintro ⟨t,u,a⟩ o σ rfl h
  refine Qa hC [.n 11] rfl ⟨tt_,(by decide)⟩ ?_
  obtain⟨g,l,h⟩:=Qf h
  replace h:QcD u a t g=some o:=h
  refine AK.meetX (fun σ=>σ=⟨[(0,.ifc 120 (.loc 607 0 0)),(1,.I t),(4,.I (w64 (Int.tdiv (w64 (t-1)) 2))),(17,.b g)],[(605,.arr 1 (a.map (QC gA))),(607,.var [.own 605 a.length,.map 608]),(608,.map (QJ V.I (QM gA) j)),(609,.tbl gA 3 (u.map Qj))]⟩) ?_ ?_
  ·replace h:=l
   refine tg_ hC [.n 5] rfl ?_
   rcases QN h with⟨c,h⟩|⟨c,h⟩
   ·refine Qa hC [.S 11 (.b true),.n 7,.K [0,1,4,17] [605,607,608,609]] rfl (tc_ c) ?_
    cases h
    exact AK.met rfl
   obtain⟨x,m,h⟩:=Qf h
   refine Qa hC [.S 11 (.b false),.n 3,.cm (.mv 125 113) [(607,605),(608,609)] [(605,607),(609,608)] [] [.d,.d,.d] [(607,.arr 1 (a.map (QC gA))),(608,.tbl gA 3 (u.map Qj))] (.b x),.n 3,.K [0,1,4,17] [605,607,608,609]] rfl ⟨⟨(tc_ c),Qht⟩,(Qco gA _ _ _ _ m)⟩ ?_
   cases h
   exact AK.met rfl
  rintro σ rfl
  replace h:QcD u a t g=some o:=h
  refine tg_ hC [.n 1] rfl ?_
  rcases QN h with⟨f,h⟩|⟨f,h⟩
  ·refine Qa hC [.T,.n 3,.K [] [605,607,608,609]] rfl ⟨tt_,f⟩ ?_
   cases h
   exact QaL rfl (an_ rfl rfl)
  obtain⟨i,p,h⟩:=Qf h
  obtain⟨s,h⟩:=QbS h
  refine Qa hC [.F,.n 7,.cm (.mv 126 113) [(607,605),(608,609)] [(605,607),(609,608)] [] [.d,.d,.d] [(607,.arr 1 (i.1.map (QC gA))),(608,.tbl gA 3 (i.2.map Qj))] (.tup []),.O 607 (.var [.own 605 i.1.length,.map 608]),.n 7,.K [0,1] [605,607,608,609]] rfl ⟨⟨⟨⟨tt_,f⟩,Qhu⟩,(Qcp gA _ _ _ _ p)⟩,(by simp [QbO s])⟩ ?_
  cases h
  exact QaP rfl rfl
 obtain⟨y,z⟩:=w
 replace h:Qee y z=some r:=h
 rintro e σ ⟨rfl,rfl⟩
 refine tg_ hC [.n 1,.K [] [605,607,608,609]] rfl ?_
 cases h
 refine AK.done ?_
 exact ex_ [] (an_ tt_ (Qas ⟨rfl,rfl,rfl,rfl,tt_⟩))
def Qex (d:(List (Option Nat)))(b:(List (Int×(Option Nat))))(e:(Option Nat))(f:(List Qi)):Option ((List (Option Nat))×(List Qi)):=
 (QeW d b e f).bind fun a=>
 (Qds a.1 a.2).bind fun g=>
 (Qfe a.1 b (w64 (g-1)) a.2).bind fun c=>
 some (c.1,c.2)
theorem QgD (gA:Nat→Nat)(c:(List (Option Nat)))(a:(List (Int×(Option Nat))))(j:(Option Nat))(k:(List Qi)){r:((List (Option Nat))×(List Qi))}(h:Qex c a j k=some r):Qh prog 85 [.ifc 120 (.loc 607 0 0),.ifc 116 (QM gA j)] [(607,.var [.own 605 c.length,.map 608]),(605,.arr 1 (c.map (QC gA))),(608,.map (QJ V.I (QM gA) a)),(609,.tbl gA 3 (k.map Qj))] (Qt (.tup []) [(605,.arr 1 (r.1.map (QC gA))),(607,.var [.own 605 r.1.length,.map 608]),(608,.map (QJ V.I (QM gA) a)),(609,.tbl gA 3 (r.2.map Qj))]):=by
 refine Qh.walk 12 func85 rfl rfl rfl fun C hC=>?_
 obtain⟨b,e,h⟩:=Qf h
 obtain⟨l,f,h⟩:=Qf h
 obtain⟨g,i,h⟩:=Qf h
 refine Qa hC [.n 4,.cm (.me 128) [(607,607),(605,605),(608,608),(609,609)] [(605,605),(607,607),(608,608),(609,609)] [605] [.d,.d] [(605,.arr 1 (b.1.map (QC gA))),(607,.var [.own 605 b.1.length,.map 608]),(608,.map (QJ V.I (QM gA) a)),(609,.tbl gA 3 (b.2.map Qj))] (.tup []),.n 5,.cm (.mv 124 113) [(607,605),(608,609)] [(605,607),(609,608)] [] [.d] [(607,.arr 1 (b.1.map (QC gA))),(608,.tbl gA 3 (b.2.map Qj))] (.I l),.n 1,.cm (.fn) [(607,607),(605,605),(608,608),(609,609)] [(605,605),(607,607),(608,608),(609,609)] [605] [.d,.d] [(605,.arr 1 (g.1.map (QC gA))),(607,.var [.own 605 g.1.length,.map 608]),(608,.map (QJ V.I (QM gA) a)),(609,.tbl gA 3 (g.2.map Qj))] (.tup []),.n 1,.K [] [605,607,608,609]] rfl ⟨⟨⟨⟨⟨tt_,QlV⟩,(QgO gA _ _ _ _ e)⟩,Qj2⟩,(Qec gA _ _ f)⟩,(Qhz gA _ _ _ _ i)⟩ ?_
 cases h
 refine AK.done ?_
 exact ex_ [] (an_ tt_ (Qas ⟨rfl,rfl,rfl,rfl,tt_⟩))
def QeX (d:(List (Option Nat)))(c:(List (Int×(Option Nat))))(a:Int)(at_4:Int)(b:(List Qi)):Option (Int×(List (Option Nat))×(List Qi)×(List (Int×(Option Nat)))):=
 bif ((QbR c a).getD none).isSome then
 some (5,d,b,c)
 else
 (Qd7 d c b).bind fun f=>
 bif (f==4096)then
 some (2,d,b,c)
 else
 (chk (d.all (okP b.length))).bind fun _=>
 (chk (c.all (fun q=>okP b.length q.2))).bind fun _=>
 (Qex d (Qel ltI c a (some b.length)) (some b.length) (b++[(Qi.mk a at_4 0)])).bind fun e=>
 some (0,e.1,e.2,(Qel ltI c a (some b.length)))
theorem QgQ (gA:Nat→Nat)(s:(List (Option Nat)))(i:(List (Int×(Option Nat))))(a:Int)(at_4:Int)(j:(List Qi)){r:(Int×(List (Option Nat))×(List Qi)×(List (Int×(Option Nat))))}(h:QeX s i a at_4 j=some r):Qh prog 45 [.loc 607 0 0,.I a,.I at_4] [(607,.var [.own 605 s.length,.map 608]),(605,.arr 1 (s.map (QC gA))),(608,.map (QJ V.I (QM gA) i)),(606,.tbl gA 3 (j.map Qj))] (fun v hs=>∃gA:Nat→Nat,True∧Qt (.I r.1) [(605,.arr 1 (r.2.1.map (QC gA))),(606,.tbl gA 3 (r.2.2.1.map Qj)),(607,.var [.own 605 r.2.1.length,.map 608]),(608,.map (QJ V.I (QM gA) r.2.2.2))] v hs):=by
 refine Qh.walk 37 func45 rfl rfl rfl fun C hC=>?_
 refine Qa hC [.n 14,.o (.any (QM gA ((QbR i a).getD none)) none),.o (.any (.b ((QbR i a).getD none).isSome) none),.n 3] rfl ⟨⟨tt_,(fun σ t D _=>Stp.lookup (e:=V.I) (f:=(QM gA)) (l:=i) (k:=a) (z:=none) rfl rfl (Qz hC.n rfl) (t _ _ rfl) (D _ _ rfl) (t _ _ rfl) Qlz Qly Qos rfl)⟩,(fun σ t D _=>Stp.neqNilP rfl rfl (Qz hC.n rfl) (t _ _ rfl) (t _ _ rfl) Qor)⟩ ?_
 rcases QN h with⟨c,h⟩|⟨c,h⟩
 ·refine Qa hC [.T,.n 8,.K [6] [605,606,607,608]] rfl ⟨tt_,c⟩ ?_
  cases h
  exact AK.done (ex_ [_] (an_ (an_ rfl tt_) (ex_ _ (an_ tt_ (Qas ⟨rfl,rfl,rfl,rfl,tt_⟩)))))
 obtain⟨B,u,h⟩:=Qf h
 refine Qa hC [.F,.n 3,.cm (.fn) [(607,607),(605,605),(608,608),(609,606)] [(605,605),(607,607),(608,608),(606,609)] [605] [.d] [(605,.arr 1 (s.map (QC gA))),(607,.var [.own 605 s.length,.map 608]),(608,.map (QJ V.I (QM gA) i)),(609,.tbl gA 3 (j.map Qj))] (.I B),.n 4] rfl ⟨⟨tt_,c⟩,(QeV gA _ _ _ u)⟩ ?_
 rcases QN h with⟨g,h⟩|⟨g,h⟩
 ·refine Qa hC [.T,.n 8,.K [6] [605,606,607,608]] rfl ⟨tt_,g⟩ ?_
  cases h
  exact AK.done (ex_ [_] (an_ (an_ rfl tt_) (ex_ _ (an_ tt_ (Qas ⟨rfl,rfl,rfl,rfl,tt_⟩)))))
 obtain⟨w,h⟩:=QbS h
 obtain⟨y,h⟩:=QbS h
 refine Qa hC [.F,.n 7,.v .no [] (.agg (Qj (Qi.mk a at_4 0)))] rfl ⟨⟨tt_,g⟩,rfl⟩ ?_
 refine AK.boxP (b:=606) (n:=j.length) (rsN:=(j++[(Qi.mk a at_4 0)]).map Qj) rfl rfl rfl (Qz hC.n rfl) rfl rfl rfl rfl rfl rfl Ql (Qby (m:=[(Qi.mk a at_4 0)])) fun gA p=>?_
 obtain⟨q,A,h⟩:=Qf h
 refine Qa hC [.O 605 (.arr 1 (s.map (QC gA))),.O 608 (.map (QJ V.I (QM gA) i)),.n 11,.x (fun σ=>σ.set 608 (.map (QJ V.I (QM gA) (Qel ltI i a (some j.length))))),.n 10,.cm (.fn) [(607,607),(605,605),(608,608),(609,606)] [(605,605),(607,607),(608,608),(606,609)] [605] [.d,.d] [(605,.arr 1 (q.1.map (QC gA))),(607,.var [.own 605 q.1.length,.map 608]),(608,.map (QJ V.I (QM gA) (Qel ltI i a (some j.length)))),(609,.tbl gA 3 (q.2.map Qj))] (.tup []),.n 8,.K [6] [605,606,607,608]] rfl ⟨⟨⟨⟨tt_,(congrArg (Ob.arr 1) (Qn1 p w))⟩,(congrArg Ob.map (Qn2 p y))⟩,(Stp.mapUpdate (e:=V.I) (f:=(QM gA)) (l:=i) (k:=a) (v:=(some j.length)) ltI rfl rfl rfl rfl rfl rfl Qlz Qly rfl)⟩,(QgD gA _ _ _ _ A)⟩ ?_
 cases h
 exact AK.done (ex_ [_] (an_ (an_ rfl tt_) (ex_ _ (an_ tt_ (Qas ⟨rfl,rfl,rfl,rfl,tt_⟩)))))
def QdR (a:(List (Option Nat)))(j:(List (Int×(Option Nat))))(b:(List Qi)):Option (Int×Int×Bool):=
 (Qd7 a j b).bind fun c=>
 bif (c==0)then
 some (0,0,false)
 else
 (idx a 0).bind fun d=>
 (d).bind fun e=>
 (b[e]?).bind fun f=>
 (idx a 0).bind fun g=>
 (g).bind fun h=>
 (b[h]?).bind fun i=>
 some (f.id,i.at_,true)
theorem Qey (gA:Nat→Nat)(i:(List (Option Nat)))(v:(List (Int×(Option Nat))))(w:(List Qi)){r:(Int×Int×Bool)}(h:QdR i v w=some r):Qh prog 86 [.loc 607 0 0] [(607,.var [.own 605 i.length,.map 608]),(605,.arr 1 (i.map (QC gA))),(608,.map (QJ V.I (QM gA) v)),(609,.tbl gA 3 (w.map Qj))] (Qt (.tup [.I r.1,.I r.2.1,.b r.2.2]) [(605,.arr 1 (i.map (QC gA))),(607,.var [.own 605 i.length,.map 608]),(608,.map (QJ V.I (QM gA) v)),(609,.tbl gA 3 (w.map Qj))]):=by
 refine Qh.walk 26 func86 rfl rfl rfl fun C hC=>?_
 obtain⟨x,k,h⟩:=Qf h
 refine Qa hC [.n 11,.cm (.fn) [(607,607),(605,605),(608,608),(609,609)] [(605,605),(607,607),(608,608),(609,609)] [605] [.d] [(605,.arr 1 (i.map (QC gA))),(607,.var [.own 605 i.length,.map 608]),(608,.map (QJ V.I (QM gA) v)),(609,.tbl gA 3 (w.map Qj))] (.I x),.n 3] rfl ⟨tt_,(QeV gA _ _ _ k)⟩ ?_
 rcases QN h with⟨c,h⟩|⟨c,h⟩
 ·refine Qa hC [.T,.n 9,.K [2,3,4] [605,607,608,609]] rfl ⟨tt_,c⟩ ?_
  cases h
  exact AK.done (ex_ [_,_,_] (an_ (an_ rfl (an_ rfl (an_ rfl tt_))) (Qas ⟨rfl,rfl,rfl,rfl,tt_⟩)))
 obtain⟨y,f,h⟩:=Qf h
 obtain⟨l,o,h⟩:=Qf h
 obtain⟨z,p,h⟩:=Qf h
 obtain⟨A,g,h⟩:=Qf h
 obtain⟨q,t,h⟩:=Qf h
 obtain⟨B,u,h⟩:=Qf h
 refine Qa hC [.F,.n 3,.K [0,2,3,4] [605,607,608,609]] rfl ⟨tt_,c⟩ ?_
 refine AK.draw2 Qo hC mixed [.N,.N,.N,.N,.N,.a (.row ((QC gA) y)) none false,.a (.any (QaD gA 0 l) none) none false,.a (.any (QaD gA 0 l) none) none false,.a (.any (.I z.id) none) none false,.a .no none true,.a .no none true,.a .no none true,.a .no none true,.a .no none true,.a (.row ((QC gA) A)) none true,.a (.any (QaD gA 0 q) none) none true,.a (.any (QaD gA 1 q) none) none true,.a (.any (.I B.at_) none) none true,.m .s,.m .s,.m .s] [0,4] [605,607,608,609] [2,3,4] [605,607,608,609] rfl rfl rfl ⟨⟨⟨⟨⟨⟨⟨⟨⟨⟨tt_,(Qbr f rfl)⟩,(QT (QbH f).2)⟩,(fun σ e j _=>Stp.nilCheckP rfl rfl (Qz hC.n rfl) (e _ _ rfl) o)⟩,(fun σ e j _=>Stp.fieldP rfl rfl (Qz hC.n rfl) (e _ _ rfl) (Qo.fo rfl rfl) rfl)⟩,(fun σ e j _=>Stp.loadP (b:=609) rfl rfl (Qz hC.n rfl) (e _ _ rfl) (j _ _ rfl) (Qo.ag rfl) (QT p) rfl)⟩,(Qbr g rfl)⟩,(QT (QbH g).2)⟩,(fun σ e j _=>Stp.nilCheckP rfl rfl (Qz hC.n rfl) (e _ _ rfl) t)⟩,(fun σ e j _=>Stp.fieldP rfl rfl (Qz hC.n rfl) (e _ _ rfl) (Qo.fo rfl rfl) rfl)⟩,(fun σ e j _=>Stp.loadP (b:=609) rfl rfl (Qz hC.n rfl) (e _ _ rfl) (j _ _ rfl) (Qo.ag rfl) (QT u) rfl)⟩ rfl (by kernel_rfl) rfl rfl rfl ?_
 refine tg_ hC [.n 2,.K [2,3,4] [605,607,608,609]] rfl ?_
 cases h
 exact AK.done (ex_ [_,_,_] (an_ (an_ rfl (an_ rfl (an_ rfl tt_))) (Qas ⟨rfl,rfl,rfl,rfl,tt_⟩)))
def Qcb (a:(List (Option Nat)))(b:Int)(c:(List Qi))(d:Int):Option ((Int×(List Qi)×(List (Option Nat)))⊕(Int×(List Qi)×(List (Option Nat)))):=
 (QbZ a d b c).bind fun f=>
 bif (!f)then
 some (.inr (b,c,a))
 else
 (Qb0 a b d c).bind fun e=>
 (chk (decide (e.1.length=a.length))).bind fun _=>
 some (.inl (d,e.2,e.1))
def QgE (a:Int)(e:Int)(b:(List (Option Nat)))(c:(List Qi)):Option Bool:=
 bif (decide ((w64 ((w64 ((w64 (2*a))+1))+1))<e))then
 (QbZ b (w64 ((w64 ((w64 (2*a))+1))+1)) (w64 ((w64 (2*a))+1)) c).bind fun d=>
 some d
 else
 some false
def Qcc (b:(List (Option Nat)))(a:Int)(c:(List Qi))(d:Bool):Option ((Int×(List Qi)×(List (Option Nat)))⊕(Int×(List Qi)×(List (Option Nat)))):=
 bif d then
 Qcb b a c (w64 ((w64 ((w64 (2*a))+1))+1))
 else
 Qcb b a c (w64 ((w64 (2*a))+1))
def QdS (e:Int)(a:Int)(b:(List Qi))(c:(List (Option Nat))):Option ((Int×(List Qi)×(List (Option Nat)))⊕(Int×(List Qi)×(List (Option Nat)))):=
 bif ((decide (e≤(w64 ((w64 (2*a))+1))))||(decide ((w64 ((w64 (2*a))+1))<0)))then
 some (.inr (a,b,c))
 else
 (QgE a e c b).bind (fun d=>Qcc c a b d)
def QdT (d:Int)(a:Int)(b:(List Qi))(c:(List (Option Nat))):Option (Bool×(List (Option Nat))×(List Qi)):=
 some ((decide (d<a)),c,b)
def Qez (b:(List (Option Nat)))(e:(List (Int×(Option Nat))))(a:Int)(c:Int)(d:(List Qi)):Option (Bool×(List (Option Nat))×(List Qi)):=
 (QH (fun st=>QdS c st.1 st.2.1 st.2.2) (a,d,b)).bind (fun q=>QdT a q.1 q.2.1 q.2.2)
theorem QgF (gA:Nat→Nat)(D:(List (Option Nat)))(p:(List (Int×(Option Nat))))(s:Int)(i:Int)(N:(List Qi)){r:(Bool×(List (Option Nat))×(List Qi))}(h:Qez D p s i N=some r):Qh prog 105 [.ifc 120 (.loc 607 0 0),.I s,.I i] [(607,.var [.own 605 D.length,.map 608]),(605,.arr 1 (D.map (QC gA))),(608,.map (QJ V.I (QM gA) p)),(609,.tbl gA 3 (N.map Qj))] (Qt (.b r.1) [(605,.arr 1 (r.2.1.map (QC gA))),(607,.var [.own 605 r.2.1.length,.map 608]),(608,.map (QJ V.I (QM gA) p)),(609,.tbl gA 3 (r.2.2.map Qj))]):=by
 refine Qh.walk 48 func105 rfl rfl rfl fun C hC=>?_
 refine tg_ hC [.n 13,.K [0,1,2,7] [605,607,608,609]] rfl ?_
 obtain⟨E,w,h⟩:=Qf h
 refine AK.loop (body:=(fun st=>QdS i st.1 st.2.1 st.2.2)) (fun st σ=>σ=⟨[(0,.ifc 120 (.loc 607 0 0)),(1,.I s),(2,.I i),(7,.I st.1)],[(605,.arr 1 (st.2.2.map (QC gA))),(607,.var [.own 605 st.2.2.length,.map 608]),(608,.map (QJ V.I (QM gA) p)),(609,.tbl gA 3 (st.2.1.map Qj))]⟩) (fun q e σ=>e=.exit 0∧σ=⟨[(1,.I s),(7,.I q.1)],[(605,.arr 1 (q.2.2.map (QC gA))),(607,.var [.own 605 q.2.2.length,.map 608]),(608,.map (QJ V.I (QM gA) p)),(609,.tbl gA 3 (q.2.1.map Qj))]⟩) w rfl ?_ ?_
 ·rintro ⟨a,f,c⟩ o σ rfl h
  refine tg_ hC [.n 11] rfl ?_
  refine AK.meetX (fun σ=>σ=⟨[(0,.ifc 120 (.loc 607 0 0)),(1,.I s),(2,.I i),(7,.I a),(8,.I (w64 ((w64 (2*a))+1))),(21,.b ((decide (i≤(w64 ((w64 (2*a))+1))))||(decide ((w64 ((w64 (2*a))+1))<0))))],[(605,.arr 1 (c.map (QC gA))),(607,.var [.own 605 c.length,.map 608]),(608,.map (QJ V.I (QM gA) p)),(609,.tbl gA 3 (f.map Qj))]⟩) ?_ ?_
  ·refine tg_ hC [.n 5] rfl ?_
   rcases Qbt (decide (i≤(w64 ((w64 (2*a))+1))))with g | g
   ·refine Qa hC [.S 18 (.b true),.n 4,.S 21 (.b ((decide (i≤(w64 ((w64 (2*a))+1))))||(decide ((w64 ((w64 (2*a))+1))<0)))),.K [0,1,2,7,8,21] [605,607,608,609]] rfl ⟨(tc_ g),(congrArg V.b (orT g rfl))⟩ ?_
    exact AK.met rfl
   refine Qa hC [.S 18 (.b false),.n 4,.S 21 (.b ((decide (i≤(w64 ((w64 (2*a))+1))))||(decide ((w64 ((w64 (2*a))+1))<0)))),.K [0,1,2,7,8,21] [605,607,608,609]] rfl ⟨(tc_ g),(congrArg V.b (orF g rfl))⟩ ?_
   exact AK.met rfl
  rintro σ rfl
  refine tg_ hC [.n 1] rfl ?_
  refine bg_ h (fun j h=>Qa hC [.T,.n 3,.K [1,7] [605,607,608,609]] rfl ⟨tt_,j⟩ ?_) fun j h=>Qa hC [.F,.n 8] rfl ⟨tt_,j⟩ ?_
  ·cases h
   exact QaL rfl (an_ rfl rfl)
  refine AK.meet (fun σ=>∃t:Int,σ=⟨[(0,.ifc 120 (.loc 607 0 0)),(1,.I s),(2,.I i),(7,.I a),(9,.I t)],[(605,.arr 1 (c.map (QC gA))),(607,.var [.own 605 c.length,.map 608]),(608,.map (QJ V.I (QM gA) p)),(609,.tbl gA 3 (f.map Qj))]⟩∧Qcb c a f t=some o) ?_ ?_
  ·refine tg_ hC [.n 8] rfl ?_
   obtain⟨u,x,h⟩:=Qf h
   replace h:Qcc c a f u=some o:=h
   refine AK.meetX (fun σ=>σ=⟨[(0,.ifc 120 (.loc 607 0 0)),(1,.I s),(2,.I i),(7,.I a),(9,.I (w64 ((w64 (2*a))+1))),(10,.I (w64 ((w64 ((w64 (2*a))+1))+1))),(33,.b u)],[(605,.arr 1 (c.map (QC gA))),(607,.var [.own 605 c.length,.map 608]),(608,.map (QJ V.I (QM gA) p)),(609,.tbl gA 3 (f.map Qj))]⟩) ?_ ?_
   ·replace h:=x
    refine tg_ hC [.n 5] rfl ?_
    rcases QN h with⟨k,h⟩|⟨k,h⟩
    ·obtain⟨G,y,h⟩:=Qf h
     refine Qa hC [.S 28 (.b true),.n 3,.cm (.mv 125 113) [(607,605),(608,609)] [(605,607),(609,608)] [] [.d,.d,.d] [(607,.arr 1 (c.map (QC gA))),(608,.tbl gA 3 (f.map Qj))] (.b G),.n 2,.K [0,1,2,7,9,10,33] [605,607,608,609]] rfl ⟨⟨(tc_ k),Qht⟩,(Qco gA _ _ _ _ y)⟩ ?_
     cases h
     exact AK.met rfl
    refine Qa hC [.S 28 (.b false),.n 6,.K [0,1,2,7,9,10,33] [605,607,608,609]] rfl (tc_ k) ?_
    cases h
    exact AK.met rfl
   rintro σ rfl
   replace h:Qcc c a f u=some o:=h
   refine tg_ hC [.n 1] rfl ?_
   refine bg_ h (fun l h=>Qa hC [.T,.n 4,.K [0,1,2,7,9] [605,607,608,609]] rfl ⟨tt_,l⟩ ?_) fun l h=>Qa hC [.F,.n 1,.K [0,1,2,7,9] [605,607,608,609]] rfl ⟨tt_,l⟩ ?_
   ·exact AK.met (ex_ _ (an_ rfl h))
   exact AK.met (ex_ _ (an_ rfl h))
  rintro σ ⟨t,rfl,h⟩
  obtain⟨H,z,h⟩:=Qf h
  refine Qa hC [.n 6,.cm (.mv 125 113) [(607,605),(608,609)] [(605,607),(609,608)] [] [.d,.d,.d] [(607,.arr 1 (c.map (QC gA))),(608,.tbl gA 3 (f.map Qj))] (.b H),.n 3] rfl ⟨⟨tt_,Qht⟩,(Qco gA _ _ _ _ z)⟩ ?_
  rcases QN h with⟨m,h⟩|⟨m,h⟩
  ·refine Qa hC [.T,.n 3,.K [1,7] [605,607,608,609]] rfl ⟨tt_,m⟩ ?_
   cases h
   exact QaL rfl (an_ rfl rfl)
  obtain⟨v,A,h⟩:=Qf h
  obtain⟨B,h⟩:=QbS h
  refine Qa hC [.F,.n 7,.cm (.mv 126 113) [(607,605),(608,609)] [(605,607),(609,608)] [] [.d,.d,.d] [(607,.arr 1 (v.1.map (QC gA))),(608,.tbl gA 3 (v.2.map Qj))] (.tup []),.O 607 (.var [.own 605 v.1.length,.map 608]),.n 7,.K [0,1,2,7] [605,607,608,609]] rfl ⟨⟨⟨⟨tt_,m⟩,Qhu⟩,(Qcp gA _ _ _ _ A)⟩,(by simp [QbO B])⟩ ?_
  cases h
  exact QaP rfl rfl
 obtain⟨J,L,M⟩:=E
 replace h:QdT s J L M=some r:=h
 rintro e σ ⟨rfl,rfl⟩
 refine tg_ hC [.n 11] rfl ?_
 cases h
 exact d1_ rfl rfl ⟨rfl,rfl,rfl,rfl,tt_⟩
def Qff (a:(List (Option Nat)))(c:(List (Int×(Option Nat))))(d:(List Qi)):Option ((Option Nat)×(List (Option Nat))):=
 (idx a (w64 ((a.length:Int)-1))).bind fun b=>
 (chk (decide (0≤(w64 ((a.length:Int)-1)))&&decide ((w64 ((a.length:Int)-1)).toNat≤a.length))).bind fun _=>
 some (b,(a.take (w64 ((a.length:Int)-1)).toNat))
theorem QhA (gA:Nat→Nat)(b:(List (Option Nat)))(e:(List (Int×(Option Nat))))(f:(List Qi)){r:((Option Nat)×(List (Option Nat)))}(h:Qff b e f=some r):Qh prog 127 [.loc 607 0 0] [(607,.var [.own 605 b.length,.map 608]),(605,.arr 1 (b.map (QC gA))),(608,.map (QJ V.I (QM gA) e)),(609,.tbl gA 3 (f.map Qj))] (Qt (.ifc 116 (QM gA r.1)) [(605,.arr 1 (r.2.map (QC gA))),(607,.var [.own 605 r.2.length,.map 608]),(608,.map (QJ V.I (QM gA) e)),(609,.tbl gA 3 (f.map Qj))]):=by
 refine Qh.walk 27 func127 rfl rfl rfl fun C hC=>?_
 obtain⟨j,d,h⟩:=Qf h
 refine tg_ hC [.n 6,.K [0] [605,607,608,609]] rfl ?_
 refine AK.draw2 Qo hC mixed [.N,.N,.N,.N,.N,.N,.N,.N,.N,.a (.row ((QC gA) j)) none false,.N] [] [] [0,3] [605,607,608,609] rfl rfl rfl ⟨⟨tt_,(Qbr d rfl)⟩,(QT (QbH d).2)⟩ rfl (by kernel_rfl) rfl rfl rfl ?_
 obtain⟨c,h⟩:=QbS h
 refine tg_ hC [.n 2,.K [0,3] [605,607,608,609]] rfl ?_
 have g:(w64 ((b.length:Int)-1)).toNat=(b.take (w64 ((b.length:Int)-1)).toNat).length:=by rw [QgU,Nat.min_eq_left (QbO (QjV c))]
 refine AK.draw2 Qo hC mixed [.a .no none true,.N,.N,.N,.N,.N,.N,.N,.N,.m (.any ⟨[],[(605,.arr 1 ((b.take (w64 ((b.length:Int)-1)).toNat).map (QC gA)))],some (23,.own 605 (w64 ((b.length:Int)-1)).toNat)⟩),.N,.m .s] [0,3] [607,608,609] [3] [605,607,608,609] rfl rfl rfl ⟨tt_,(fun σ i k=>Stp.sliceO rfl rfl (Qz hC.n rfl) (i _ _ rfl) (k _ _ rfl) (Qo.es rfl) Bnd.no (Bnd.val (i _ _ rfl) (QbO (QjU c)) rfl) (QbO (QjV c)) (by simp))⟩ rfl (by kernel_rfl) rfl rfl rfl ?_
 refine Qa hC [.O 607 (.var [.own 605 (w64 ((b.length:Int)-1)).toNat,.map 608]),.n 9,.O 607 (.var [.own 605 (b.take (w64 ((b.length:Int)-1)).toNat).length,.map 608])] rfl ⟨⟨tt_,rfl⟩,(congrArg (fun n=>Ob.var [.own 605 n,.map 608]) (by rw [←g]))⟩ ?_
 cases h
 exact d1_ rfl rfl ⟨rfl,rfl,rfl,rfl,tt_⟩
def QeY (c:(List (Option Nat)))(e:(List (Int×(Option Nat))))(f:(List Qi)):Option ((Option Nat)×(List (Option Nat))×(List Qi)):=
 (Qds c f).bind fun g=>
 (Qb0 c 0 (w64 (g-1)) f).bind fun d=>
 (chk (decide (d.1.length=c.length))).bind fun _=>
 (Qez d.1 e 0 (w64 (g-1)) d.2).bind fun a=>
 (Qff a.2.1 e a.2.2).bind fun b=>
 some (b.1,b.2,a.2.2)
theorem QgR (gA:Nat→Nat)(i:(List (Option Nat)))(e:(List (Int×(Option Nat))))(j:(List Qi)){r:((Option Nat)×(List (Option Nat))×(List Qi))}(h:QeY i e j=some r):Qh prog 87 [.ifc 120 (.loc 607 0 0)] [(607,.var [.own 605 i.length,.map 608]),(605,.arr 1 (i.map (QC gA))),(608,.map (QJ V.I (QM gA) e)),(609,.tbl gA 3 (j.map Qj))] (Qt (.ifc 116 (QM gA r.1)) [(605,.arr 1 (r.2.1.map (QC gA))),(607,.var [.own 605 r.2.1.length,.map 608]),(608,.map (QJ V.I (QM gA) e)),(609,.tbl gA 3 (r.2.2.map Qj))]):=by
 refine Qh.walk 15 func87 rfl rfl rfl fun C hC=>?_
 obtain⟨p,k,h⟩:=Qf h
 obtain⟨l,m,h⟩:=Qf h
 obtain⟨o,h⟩:=QbS h
 obtain⟨a,f,h⟩:=Qf h
 obtain⟨c,g,h⟩:=Qf h
 refine Qa hC [.n 8,.cm (.mv 124 113) [(607,605),(608,609)] [(605,607),(609,608)] [] [.d] [(607,.arr 1 (i.map (QC gA))),(608,.tbl gA 3 (j.map Qj))] (.I p),.n 8,.cm (.mv 126 113) [(607,605),(608,609)] [(605,607),(609,608)] [] [.d,.d,.d] [(607,.arr 1 (l.1.map (QC gA))),(608,.tbl gA 3 (l.2.map Qj))] (.tup []),.O 607 (.var [.own 605 l.1.length,.map 608]),.n 6,.cm (.fn) [(607,607),(605,605),(608,608),(609,609)] [(605,605),(607,607),(608,608),(609,609)] [605] [.d,.d,.d] [(605,.arr 1 (a.2.1.map (QC gA))),(607,.var [.own 605 a.2.1.length,.map 608]),(608,.map (QJ V.I (QM gA) e)),(609,.tbl gA 3 (a.2.2.map Qj))] (.b a.1),.n 5,.cm (.me 127) [(607,607),(605,605),(608,608),(609,609)] [(605,605),(607,607),(608,608),(609,609)] [605] [.d] [(605,.arr 1 (c.2.map (QC gA))),(607,.var [.own 605 c.2.length,.map 608]),(608,.map (QJ V.I (QM gA) e)),(609,.tbl gA 3 (a.2.2.map Qj))] (.ifc 116 (QM gA c.1)),.n 4] rfl ⟨⟨⟨⟨⟨⟨⟨⟨tt_,Qj2⟩,(Qec gA _ _ k)⟩,Qhu⟩,(Qcp gA _ _ _ _ m)⟩,(by simp [QbO o])⟩,(QgF gA _ _ _ _ _ f)⟩,QmD⟩,(QhA gA _ _ _ g)⟩ ?_
 cases h
 exact d1_ rfl rfl ⟨rfl,rfl,rfl,rfl,tt_⟩
def QeZ (f:Int)(a:Int)(at_14:Int)(g:Bool)(d:(List Int))(b:(List (Int×(Option Nat))))(h:(List Qi))(i:(List (Option Nat))):Option ((Int×Int×Bool×(List Int)×(List (Int×(Option Nat)))×(List Qi)×(List (Option Nat)))⊕((List Int)×(List (Int×(Option Nat)))×(List Qi)×(List (Option Nat)))):=
 bif (g&&(decide (at_14≤f)))then
 (chk (decide (d.length+([a]:List Int).length≤4294967296))).bind fun _=>
 (QeY i b h).bind fun c=>
 (QdR c.2.1 (Qd6 b a) c.2.2).bind fun e=>
 some (.inl (e.1,e.2.1,e.2.2,(d++([a]:List Int)),(Qd6 b a),c.2.2,c.2.1))
 else
 some (.inr (d,b,h,i))
def Qe0 (a:(List Int))(b:(List (Int×(Option Nat))))(c:(List Qi))(d:(List (Option Nat))):Option ((List Int)×(List (Option Nat))×(List (Int×(Option Nat)))×(List Qi)):=
 some (a,d,b,c)
def Qf0 (c:(List (Option Nat)))(d:(List (Int×(Option Nat))))(a:Int)(e:(List Qi)):Option ((List Int)×(List (Option Nat))×(List (Int×(Option Nat)))×(List Qi)):=
 (QdR c d e).bind fun b=>
 (QH (fun st=>QeZ a st.1 st.2.1 st.2.2.1 st.2.2.2.1 st.2.2.2.2.1 st.2.2.2.2.2.1 st.2.2.2.2.2.2) (b.1,b.2.1,b.2.2,([]:List Int),d,e,c)).bind (fun q=>Qe0 q.1 q.2.1 q.2.2.1 q.2.2.2)
theorem Qio (gA:Nat→Nat)(u:(List (Option Nat)))(D:(List (Int×(Option Nat))))(a:Int)(E:(List Qi)){r:((List Int)×(List (Option Nat))×(List (Int×(Option Nat)))×(List Qi))}(h:Qf0 u D a E=some r):Qh prog 46 [.loc 607 0 0,.I a] [(607,.var [.own 605 u.length,.map 608]),(605,.arr 1 (u.map (QC gA))),(608,.map (QJ V.I (QM gA) D)),(609,.tbl gA 3 (E.map Qj))] (Qt (.own 600 r.1.length) [(600,.arr 1 (r.1.map Qs)),(605,.arr 1 (r.2.1.map (QC gA))),(607,.var [.own 605 r.2.1.length,.map 608]),(608,.map (QJ V.I (QM gA) r.2.2.1)),(609,.tbl gA 3 (r.2.2.2.map Qj))]):=by
 refine Qh.walk 42 func46 rfl rfl rfl fun C hC=>?_
 obtain⟨G,H,h⟩:=Qf h
 refine Qa hC [.n 14,.cm (.fn) [(607,607),(605,605),(608,608),(609,609)] [(605,605),(607,607),(608,608),(609,609)] [605] [.d] [(605,.arr 1 (u.map (QC gA))),(607,.var [.own 605 u.length,.map 608]),(608,.map (QJ V.I (QM gA) D)),(609,.tbl gA 3 (E.map Qj))] (.tup [.I G.1,.I G.2.1,.b G.2.2]),.n 10,.adopt 5 27 1,.O 27 (.arr 1 (([]:List Int).map Qs)),.S 5 (.own 27 ([]:List Int).length),.K [0,1,5,6,7,8] [27,605,607,608,609]] rfl ⟨⟨⟨tt_,(Qey gA _ _ _ H)⟩,rfl⟩,(congrArg (fun n=>V.own 27 n) (by simp))⟩ ?_
 obtain⟨J,w,h⟩:=Qf h
 refine AK.loop (body:=(fun st=>QeZ a st.1 st.2.1 st.2.2.1 st.2.2.2.1 st.2.2.2.2.1 st.2.2.2.2.2.1 st.2.2.2.2.2.2)) (fun st σ=>σ=⟨[(0,.loc 607 0 0),(1,.I a),(5,.own 27 st.2.2.2.1.length),(6,.I st.1),(7,.I st.2.1),(8,.b st.2.2.1)],[(27,.arr 1 (st.2.2.2.1.map Qs)),(605,.arr 1 (st.2.2.2.2.2.2.map (QC gA))),(607,.var [.own 605 st.2.2.2.2.2.2.length,.map 608]),(608,.map (QJ V.I (QM gA) st.2.2.2.2.1)),(609,.tbl gA 3 (st.2.2.2.2.2.1.map Qj))]⟩) (fun q e σ=>e=.exit 0∧σ=⟨[(5,.own 27 q.1.length)],[(27,.arr 1 (q.1.map Qs)),(605,.arr 1 (q.2.2.2.map (QC gA))),(607,.var [.own 605 q.2.2.2.length,.map 608]),(608,.map (QJ V.I (QM gA) q.2.1)),(609,.tbl gA 3 (q.2.2.1.map Qj))]⟩) w rfl ?_ ?_
 ·rintro ⟨c,at_14,j,s,m,L,y⟩ o σ rfl h
  refine tg_ hC [.n 2] rfl ?_
  refine AK.meetX (fun σ=>σ=⟨[(0,.loc 607 0 0),(1,.I a),(5,.own 27 s.length),(6,.I c),(20,.b (j&&(decide (at_14≤a))))],[(27,.arr 1 (s.map Qs)),(605,.arr 1 (y.map (QC gA))),(607,.var [.own 605 y.length,.map 608]),(608,.map (QJ V.I (QM gA) m)),(609,.tbl gA 3 (L.map Qj))]⟩) ?_ ?_
  ·refine tg_ hC [.n 3] rfl ?_
   rcases Qbt j with g | g
   ·refine Qa hC [.S 16 (.b true),.n 5,.S 20 (.b (j&&(decide (at_14≤a)))),.K [0,1,5,6,20] [27,605,607,608,609]] rfl ⟨(tc_ g),(congrArg V.b (Qgq g rfl))⟩ ?_
    exact AK.met rfl
   refine Qa hC [.S 16 (.b false),.n 5,.S 20 (.b (j&&(decide (at_14≤a)))),.K [0,1,5,6,20] [27,605,607,608,609]] rfl ⟨(tc_ g),(congrArg V.b (Qgr g rfl))⟩ ?_
   exact AK.met rfl
  rintro σ rfl
  refine tg_ hC [.n 1] rfl ?_
  rcases QN h with⟨p,h⟩|⟨p,h⟩
  ·obtain⟨z,h⟩:=QbS h
   obtain⟨i,A,h⟩:=Qf h
   obtain⟨t,B,h⟩:=Qf h
   refine Qa hC [.T,.n 8,.v (.bd []) [] (.sl 1 (([c]:List Int).map Qs)),.app ((s++([c]:List Int)).map Qs) (s++([c]:List Int)).length,.n 9,.cm (.fn) [(607,607),(605,605),(608,608),(609,609)] [(605,605),(607,607),(608,608),(609,609)] [605] [.d] [(605,.arr 1 (i.2.1.map (QC gA))),(607,.var [.own 605 i.2.1.length,.map 608]),(608,.map (QJ V.I (QM gA) m)),(609,.tbl gA 3 (i.2.2.map Qj))] (.ifc 116 (QM gA i.1)),.n 8,.x (fun σ=>σ.set 608 (.map (QJ V.I (QM gA) (Qd6 m c)))),.n 5,.cm (.fn) [(607,607),(605,605),(608,608),(609,609)] [(605,605),(607,607),(608,608),(609,609)] [605] [.d] [(605,.arr 1 (i.2.1.map (QC gA))),(607,.var [.own 605 i.2.1.length,.map 608]),(608,.map (QJ V.I (QM gA) (Qd6 m c))),(609,.tbl gA 3 (i.2.2.map Qj))] (.tup [.I t.1,.I t.2.1,.b t.2.2]),.n 8,.K [0,1,5,6,7,8] [27,605,607,608,609]] rfl ⟨⟨⟨⟨⟨⟨tt_,p⟩,rfl⟩,⟨Ql,Qcv z Ql,Qby,Qdy Ql⟩⟩,(QgR gA _ _ _ A)⟩,(Stp.delete (e:=V.I) (f:=(QM gA)) (l:=m) (k:=c) rfl rfl rfl rfl rfl Qlz Qly)⟩,(Qey gA _ _ _ B)⟩ ?_
   cases h
   exact QaP rfl rfl
  refine Qa hC [.F,.n 2,.K [5] [27,605,607,608,609]] rfl ⟨tt_,p⟩ ?_
  cases h
  exact QaL rfl (an_ rfl rfl)
 obtain⟨M,N,P,U⟩:=J
 replace h:Qe0 M N P U=some r:=h
 rintro e σ ⟨rfl,rfl⟩
 refine tg_ hC [.n 9,.K [4] [27,605,607,608,609],.ren 27 600] rfl ?_
 cases h
 exact d1_ rfl rfl ⟨rfl,rfl,rfl,rfl,rfl,tt_⟩
def Qfn (e:Int)(f:(List (Int×Bool)))(a:Qk)(b:(List (Option Nat)))(c:(List (Int×(Option Nat))))(d:(List Qi)):Option ((Int×(List (Int×Bool))×(List (Option Nat))×(List (Int×(Option Nat)))×(List Qi))⊕((List (Option Nat))×(List (Int×(Option Nat)))×(List Qi))):=
 some (.inl ((w64 (e+1)),(Qel ltI f a.Id true),b,c,d))
def QhP (h:(List Qk))(d:Int)(e:(List (Int×Bool)))(f:(List (Option Nat)))(g:(List (Int×(Option Nat))))(b:(List Qi)):Option ((Int×(List (Int×Bool))×(List (Option Nat))×(List (Int×(Option Nat)))×(List Qi))⊕((List (Option Nat))×(List (Int×(Option Nat)))×(List Qi))):=
 bif (decide (d<(h.length:Int)))then
 (idx h d).bind fun a=>
 bif ((!((QbR e a.Id).getD false))&&(decide (0<a.Until)))then
 (QeX f g a.Id a.Until b).bind fun c=>
 Qfn d e a c.2.1 c.2.2.2 c.2.2.1
 else
 Qfn d e a f g b
 else
 some (.inr (f,g,b))
def QhQ (a:Int)(b:(List (Option Nat)))(c:(List (Int×(Option Nat))))(d:(List Qi)):Option (List Int):=
 (Qf0 b c a d).bind fun e=>
 some e.1
def Qjn (c:(List Qk))(a:Int):Option (List Int):=
 (Qjm).bind fun b=>
 (QH (fun st=>QhP c st.1 st.2.1 st.2.2.1 st.2.2.2.1 st.2.2.2.2) (0,([]:(List (Int×Bool))),([]:List (Option Nat)),b.1,b.2)).bind (fun q=>QhQ a q.1 q.2.1 q.2.2)
theorem Qkv (gA:Nat→Nat)(t:(List Qk))(c:Int){r:(List Int)}(h:Qjn t c=some r):Qh prog 19 [.sl 11 (t.map Qd),.I c] [] (Qt (.own 600 r.length) [(600,.arr 1 (r.map Qs))]):=by
 refine Qh.walk 40 func19 rfl rfl rfl fun C hC=>?_
 obtain⟨U,G,h⟩:=Qf h
 refine Qa hC [.n 7,.cm (.fn) [] [(9,1),(602,3),(603,601)] [] [] [(1,.map (QJ V.I (QM gA) U.1)),(3,.var [.lit (.slice none 0 0),.map 1]),(601,.tbl gA 3 (U.2.map Qj))] (.loc 3 0 0),.n 6,.O 10 (.map (QJ V.I V.b ([]:(List (Int×Bool))))),.n 7,.o (.ln t.length),.n 4,.adoptO 602 0 604 1,.O 604 (.arr 1 (([]:List (Option Nat)).map (QC gA))),.O 602 (.var [.own 604 ([]:List (Option Nat)).length,.map 9]),.K [1,5,6,11,12,13] [9,10,602,603,604]] rfl ⟨⟨⟨⟨⟨tt_,(Qku gA  G)⟩,rfl⟩,Ql⟩,rfl⟩,(congrArg (fun n=>Ob.var [.own 604 n,.map 9]) (by simp))⟩ ?_
 obtain⟨H,A,h⟩:=Qf h
 refine AK.loop (body:=(fun st=>QhP t st.1 st.2.1 st.2.2.1 st.2.2.2.1 st.2.2.2.2)) (fun st σ=>∃gA:Nat→Nat,σ=⟨[(1,.I c),(5,.loc 602 0 0),(6,.map 10),(11,.sl 11 (t.map Qd)),(12,.I (t.length:Int)),(13,.I st.1)],[(9,.map (QJ V.I (QM gA) st.2.2.2.1)),(10,.map (QJ V.I V.b st.2.1)),(602,.var [.own 604 st.2.2.1.length,.map 9]),(603,.tbl gA 3 (st.2.2.2.2.map Qj)),(604,.arr 1 (st.2.2.1.map (QC gA)))]⟩) (fun q e σ=>e=.exit 0∧∃gA:Nat→Nat,σ=⟨[(1,.I c),(5,.loc 602 0 0)],[(9,.map (QJ V.I (QM gA) q.2.1)),(602,.var [.own 604 q.1.length,.map 9]),(603,.tbl gA 3 (q.2.2.map Qj)),(604,.arr 1 (q.1.map (QC gA)))]⟩) A (ex_ _ rfl) ?_ ?_
 ·rintro ⟨J,j,W,Y,L⟩ o σ ⟨gA,rfl⟩ h
  refine tg_ hC [.n 6] rfl ?_
  rcases QN h with⟨m,h⟩|⟨m,h⟩
  ·obtain⟨a,B,h⟩:=Qf h
   refine Qa hC [.T,.n 6,.o (.row (Qd a)),.v .no [] (.agg (Qd a)),.n 2,.O 8 (.var (Qd a)),.n 2] rfl ⟨⟨⟨⟨tt_,m⟩,(Qa5 B)⟩,rfl⟩,rfl⟩ ?_
   refine AK.meet (fun σ=>∃gA:Nat→Nat,∃u:(List (Option Nat)),∃w:(List (Int×(Option Nat))),∃y:(List Qi),σ=⟨[(1,.I c),(5,.loc 602 0 0),(6,.map 10),(8,.loc 8 0 0),(11,.sl 11 (t.map Qd)),(12,.I (t.length:Int)),(13,.I J)],[(8,.var (Qd a)),(9,.map (QJ V.I (QM gA) w)),(10,.map (QJ V.I V.b j)),(602,.var [.own 604 u.length,.map 9]),(603,.tbl gA 3 (y.map Qj)),(604,.arr 1 (u.map (QC gA)))]⟩∧Qfn J j a u w y=some o) ?_ ?_
   ·refine tg_ hC [.n 1] rfl ?_
    refine AK.meetX (fun σ=>σ=⟨[(1,.I c),(5,.loc 602 0 0),(6,.map 10),(8,.loc 8 0 0),(11,.sl 11 (t.map Qd)),(12,.I (t.length:Int)),(13,.I J),(26,.b ((!((QbR j a.Id).getD false))&&(decide (0<a.Until))))],[(8,.var (Qd a)),(9,.map (QJ V.I (QM gA) Y)),(10,.map (QJ V.I V.b j)),(602,.var [.own 604 W.length,.map 9]),(603,.tbl gA 3 (L.map Qj)),(604,.arr 1 (W.map (QC gA)))]⟩) ?_ ?_
    ·refine Qa hC [.n 4,.o (.any (.b ((QbR j a.Id).getD false)) none),.n 2] rfl ⟨tt_,(fun σ X Z _=>Stp.lookup (e:=V.I) (f:=V.b) (l:=j) (k:=a.Id) (z:=false) rfl rfl (Qz hC.n rfl) (X _ _ rfl) (Z _ _ rfl) (X _ _ rfl) QnW Qly Qo0 rfl)⟩ ?_
     rcases Qbt (!((QbR j a.Id).getD false))with g | g
     ·refine Qa hC [.S 22 (.b true),.n 5,.S 26 (.b ((!((QbR j a.Id).getD false))&&(decide (0<a.Until)))),.K [1,5,6,8,11,12,13,26] [8,9,10,602,603,604]] rfl ⟨(tc_ g),(congrArg V.b (Qgq g rfl))⟩ ?_
      exact AK.met rfl
     refine Qa hC [.S 22 (.b false),.n 5,.S 26 (.b ((!((QbR j a.Id).getD false))&&(decide (0<a.Until)))),.K [1,5,6,8,11,12,13,26] [8,9,10,602,603,604]] rfl ⟨(tc_ g),(congrArg V.b (Qgr g rfl))⟩ ?_
     exact AK.met rfl
    rintro σ rfl
    refine tg_ hC [.n 1] rfl ?_
    rcases QN h with⟨p,h⟩|⟨p,h⟩
    ·obtain⟨s,D,h⟩:=Qf h
     refine Qa hC [.T,.n 6] rfl ⟨tt_,p⟩ ?_
     refine AK.callE (ι:=Nat→Nat) (Φ:=fun _=>True) [(607,602),(605,604),(608,9),(606,603)] [(604,605),(603,606),(602,607),(9,608)] [604,603] [.d,.d,.d] (fun gA=>[(605,.arr 1 (s.2.1.map (QC gA))),(606,.tbl gA 3 (s.2.2.1.map Qj)),(607,.var [.own 605 s.2.1.length,.map 608]),(608,.map (QJ V.I (QM gA) s.2.2.2))]) (fun gA=>.I s.1) (fun gA=>_) rfl hC (Qaz.fn rfl (by kernel_rfl) rfl) rfl (Qz hC.n rfl) rfl rfl (QgQ gA _ _ _ _ _ D) (fun gA=>ex_ _ rfl) fun gA _=>?_
     refine tg_ hC [.n 1,.K [1,5,6,8,11,12,13] [8,9,10,602,603,604]] rfl ?_
     exact AK.met (ex_ _ (ex_ _ (ex_ _ (ex_ _ (an_ rfl h)))))
    refine Qa hC [.F,.n 1,.K [1,5,6,8,11,12,13] [8,9,10,602,603,604]] rfl ⟨tt_,p⟩ ?_
    exact AK.met (ex_ _ (ex_ _ (ex_ _ (ex_ _ (an_ rfl h)))))
   rintro σ ⟨gA,u,w,y,rfl,h⟩
   refine Qa hC [.n 4,.x (fun σ=>σ.set 10 (.map (QJ V.I V.b (Qel ltI j a.Id true)))),.n 7,.K [1,5,6,11,12,13] [9,10,602,603,604]] rfl ⟨tt_,(Stp.mapUpdate (e:=V.I) (f:=V.b) (l:=j) (k:=a.Id) (v:=true) ltI rfl rfl rfl rfl rfl rfl QnW Qly rfl)⟩ ?_
   cases h
   exact QaP rfl (ex_ _ rfl)
  refine Qa hC [.F,.n 2,.K [1,5] [9,602,603,604]] rfl ⟨tt_,m⟩ ?_
  cases h
  exact QaL rfl (an_ rfl (ex_ _ rfl))
 obtain⟨M,N,P⟩:=H
 replace h:QhQ c M N P=some r:=h
 rintro e σ ⟨rfl,gA,rfl⟩
 obtain⟨i,E,h⟩:=Qf h
 refine Qa hC [.n 6,.cm (.fn) [(607,602),(605,604),(608,9),(609,603)] [(39,600),(604,605),(602,607),(9,608),(603,609)] [604] [.d,.d] [(600,.arr 1 (i.1.map Qs)),(605,.arr 1 (i.2.1.map (QC gA))),(607,.var [.own 605 i.2.1.length,.map 608]),(608,.map (QJ V.I (QM gA) i.2.2.1)),(609,.tbl gA 3 (i.2.2.2.map Qj))] (.own 600 i.1.length),.n 4,.K [4] [39],.ren 39 600] rfl ⟨tt_,(Qio gA _ _ _ _ E)⟩ ?_
 cases h
 exact d1_ rfl rfl ⟨rfl,tt_⟩
def QbP (c:(List Int))(d:(List Int))(a:Int):Option (Int⊕(Unit⊕Unit)):=
 bif (decide (a<(c.length:Int)))then
 (idx c a).bind fun e=>
 (idx d a).bind fun b=>
 bif (e != b)then
 some (.inr (.inl ()))
 else
 some (.inl (w64 (a+1)))
 else
 some (.inr (.inr ()))
def Qe1 : Option Bool:=
 some false
def Qe2 : Option Bool:=
 some true
def Qcd (a:(List Int))(b:(List Int)):Option Bool:=
 bif ((a.length:Int) != (b.length:Int))then
 some false
 else
 (QH (fun st=>QbP a b st) 0).bind (Sum.elim (fun q=>Qe1) (fun q=>Qe2))
theorem QdB (g i){r}(h:Qcd g i=some r):Qh prog 18 [.sl 1 (g.map Qs),.sl 1 (i.map Qs)] [] (Qt (.b r) []):=by
 refine Qh.walk 26 func18 rfl rfl rfl fun C hC=>?_
 refine Qa hC [.n 9,.o (.ln g.length),.n 1,.o (.ln i.length),.n 3] rfl ⟨⟨tt_,Ql⟩,Ql⟩ ?_
 refine bg_ h (fun d h=>Qa hC [.T,.n 7,.K [4] []] rfl ⟨tt_,d⟩ ?_) fun d h=>Qa hC [.F,.n 9,.K [0,1,5] []] rfl ⟨tt_,d⟩ ?_
 ·cases h
  exact d1_ rfl rfl tt_
 obtain⟨l,j,h⟩:=Qf h
 refine AK.loop (body:=(fun st=>QbP g i st)) (fun st σ=>σ=⟨[(0,.sl 1 (g.map Qs)),(1,.sl 1 (i.map Qs)),(5,.I st)],[]⟩) (Sum.elim (fun q e σ=>e=.ret∧σ=⟨[(4,.b false)],[]⟩) (fun q e σ=>e=.exit 0∧σ=⟨[],[]⟩)) j rfl ?_ ?_
 ·rintro t o σ rfl h
  refine Qa hC [.n 5,.o (.ln g.length),.n 3] rfl ⟨tt_,Ql⟩ ?_
  rcases QN h with⟨f,h⟩|⟨f,h⟩
  ·obtain⟨s,m,h⟩:=Qf h
   obtain⟨p,k,h⟩:=Qf h
   refine Qa hC [.T,.n 5,.K [0,1,5] []] rfl ⟨tt_,f⟩ ?_
   refine AK.draw2 Qo hC mixed [.N,.N,.a (.row (Qs s)) none false,.N,.N,.N,.a (.row (Qs p)) none false,.N,.N] [] [] [0,1,5,25] [] rfl rfl rfl ⟨⟨tt_,(Qa5 m)⟩,(Qa5 k)⟩ rfl (by kernel_rfl) rfl rfl rfl ?_
   refine tg_ hC [.n 1] rfl ?_
   refine bg_ h (fun c h=>Qa hC [.T,.n 8,.K [4] []] rfl ⟨tt_,c⟩ ?_) fun c h=>Qa hC [.F,.n 8,.K [0,1,5] []] rfl ⟨tt_,c⟩ ?_
   ·cases h
    exact QfP rfl (an_ rfl rfl)
   cases h
   exact QaP rfl rfl
  refine Qa hC [.F,.n 2,.K [] []] rfl ⟨tt_,f⟩ ?_
  cases h
  exact QaL rfl (an_ rfl rfl)
 rcases l with(_ | _)
 ·replace h:Qe1=some r:=h
  rintro e σ ⟨rfl,rfl⟩
  refine tg_ hC [.n 2] rfl ?_
  cases h
  exact d1_ rfl rfl tt_
 replace h:Qe2=some r:=h
 rintro e σ ⟨rfl,rfl⟩
 refine tg_ hC [.n 8] rfl ?_
 cases h
 exact d1_ rfl rfl tt_
def Qdl (c:Int)(a:Int)(b:Int):Option Bool:=
 some ((decide (a≤c))&&(decide (c≤b)))
theorem Qc9 (e a c){r}(h:Qdl e a c=some r):Qh prog 89 [.I e,.I a,.I c] [] (Qt (.b r) []):=by
 refine Qh.walk 15 func89 rfl rfl rfl fun C hC=>?_
 refine tg_ hC [.n 6] rfl ?_
 refine AK.meetX (fun σ=>σ=⟨[(6,.b ((decide (a≤e))&&(decide (e≤c))))],[]⟩) ?_ ?_
 ·refine tg_ hC [.n 5] rfl ?_
  rcases Qbt (decide (a≤e))with d | d
  ·refine Qa hC [.S 10 (.b true),.n 6,.S 6 (.b ((decide (a≤e))&&(decide (e≤c)))),.K [6] []] rfl ⟨(tc_ d),(congrArg V.b (Qgq d rfl))⟩ ?_
   exact AK.met rfl
  refine Qa hC [.S 10 (.b false),.n 6,.S 6 (.b ((decide (a≤e))&&(decide (e≤c)))),.K [6] []] rfl ⟨(tc_ d),(congrArg V.b (Qgr d rfl))⟩ ?_
  exact AK.met rfl
 rintro σ rfl
 refine tg_ hC [.n 2] rfl ?_
 cases h
 exact d1_ rfl rfl tt_
def QiY (a:QO):Option Int:=
 some (w64 ((w64 (a.Open+a.Done))+a.Failed))
theorem Qj4 (a){r}(h:QiY a=some r):Qh prog 90 [.agg (Qah a)] [] (Qt (.I r) []):=by
 refine Qh.walk 11 func90 rfl rfl rfl fun C hC=>?_
 refine tg_ hC [.n 20] rfl ?_
 cases h
 exact d1_ rfl rfl tt_
def Qj5 (a:QO):Option Bool:=
 (Qdl a.Most 1 16).bind fun b=>
 bif (!b)then
 some true
 else
 (Qdl a.Enough 1 a.Most).bind fun c=>
 some (!c)
def Qg7 (a:QO)(b:Int):Option (Int⊕(Unit⊕Unit)):=
 bif (decide (b<(([a.Open,a.Done,a.Failed]:List Int).length:Int)))then
 (idx ([a.Open,a.Done,a.Failed]:List Int) b).bind fun c=>
 (Qdl c 0 a.Most).bind fun d=>
 bif (!d)then
 some (.inr (.inl ()))
 else
 some (.inl (w64 (b+1)))
 else
 some (.inr (.inr ()))
def Qg8 : Option Bool:=
 some false
def Qg9 (c:QO):Option Bool:=
 (QiY c).bind fun a=>
 (Qdl a 1 c.Most).bind fun b=>
 some b
def Qe3 (a:QO)(b:Bool):Option Bool:=
 bif b then
 some false
 else
 (QH (fun st=>Qg7 a st) 0).bind (Sum.elim (fun q=>Qg8) (fun q=>Qg9 a))
def QgG (a:QO):Option Bool:=
 (Qj5 a).bind (fun b=>Qe3 a b)
theorem Qha (f){r}(h:QgG f=some r):Qh prog 50 [.agg (Qah f)] [] (Qt (.b r) []):=by
 refine Qh.walk 40 func50 rfl rfl rfl fun C hC=>?_
 refine tg_ hC [.n 8] rfl ?_
 obtain⟨u,w,h⟩:=Qf h
 replace h:Qe3 f u=some r:=h
 refine AK.meetX (fun σ=>σ=⟨[(1,.loc 1 0 0),(16,.b u)],[(1,.var (Qah f))]⟩) ?_ ?_
 ·replace h:=w
  obtain⟨G,x,h⟩:=Qf h
  refine Qa hC [.n 3,.o (.c false [.d,.d,.d] (.b G)),.n 2] rfl ⟨tt_,(Qc9 _ _ _ x)⟩ ?_
  rcases QN h with⟨j,h⟩|⟨j,h⟩
  ·refine Qa hC [.S 9 (.b true),.n 8,.K [1,16] [1]] rfl (tc_ j) ?_
   cases h
   exact AK.met rfl
  obtain⟨H,y,h⟩:=Qf h
  refine Qa hC [.S 9 (.b false),.n 4,.o (.c false [.d,.d,.d] (.b H)),.n 3,.K [1,16] [1]] rfl ⟨(tc_ j),(Qc9 _ _ _ y)⟩ ?_
  cases h
  exact AK.met rfl
 rintro σ rfl
 replace h:Qe3 f u=some r:=h
 refine tg_ hC [.n 1] rfl ?_
 refine bg_ h (fun k h=>Qa hC [.T,.n 7,.K [2] []] rfl ⟨tt_,k⟩ ?_) fun k h=>Qa hC [.F,.n 11,.v (.bd []) [] (.sl 1 (([f.Open,f.Done,f.Failed]:List Int).map Qs)),.o (.ln ([f.Open,f.Done,f.Failed]:List Int).length),.n 4,.K [1,23,24,25] [1]] rfl ⟨⟨⟨tt_,k⟩,rfl⟩,Ql⟩ ?_
 ·cases h
  exact d1_ rfl rfl tt_
 obtain⟨z,l,h⟩:=Qf h
 refine AK.loop (body:=(fun st=>Qg7 f st)) (fun st σ=>σ=⟨[(1,.loc 1 0 0),(23,.sl 1 (([f.Open,f.Done,f.Failed]:List Int).map Qs)),(24,.I (([f.Open,f.Done,f.Failed]:List Int).length:Int)),(25,.I st)],[(1,.var (Qah f))]⟩) (Sum.elim (fun q e σ=>e=.ret∧σ=⟨[(2,.b false)],[]⟩) (fun q e σ=>e=.exit 0∧σ=⟨[(1,.loc 1 0 0)],[(1,.var (Qah f))]⟩)) l rfl ?_ ?_
 ·rintro J o σ rfl h
  refine tg_ hC [.n 6] rfl ?_
  rcases QN h with⟨g,h⟩|⟨g,h⟩
  ·obtain⟨A,m,h⟩:=Qf h
   obtain⟨B,p,h⟩:=Qf h
   refine Qa hC [.T,.n 6,.o (.row (Qs A)),.n 9,.o (.c false [.d,.d,.d] (.b B)),.n 3] rfl ⟨⟨⟨tt_,g⟩,(Qa5 m)⟩,(Qc9 _ _ _ p)⟩ ?_
   refine bg_ h (fun i h=>Qa hC [.T,.n 8,.K [2] []] rfl ⟨tt_,i⟩ ?_) fun i h=>Qa hC [.F,.n 7,.K [1,23,24,25] [1]] rfl ⟨tt_,i⟩ ?_
   ·cases h
    exact QfP rfl (an_ rfl rfl)
   cases h
   exact QaP rfl rfl
  refine Qa hC [.F,.n 2,.K [1] [1]] rfl ⟨tt_,g⟩ ?_
  cases h
  exact QaL rfl (an_ rfl rfl)
 rcases z with(_ | _)
 ·replace h:Qg8=some r:=h
  rintro e σ ⟨rfl,rfl⟩
  refine tg_ hC [.n 2] rfl ?_
  cases h
  exact d1_ rfl rfl tt_
 replace h:Qg9 f=some r:=h
 rintro e σ ⟨rfl,rfl⟩
 obtain⟨D,s,h⟩:=Qf h
 obtain⟨E,t,h⟩:=Qf h
 refine tg_ hC [.n 3,.K [1] [1]] rfl ?_
 refine AK.draw2 Qo hC mixed [.a .no (some ([],.agg (Qah f))) false,.a (.c false [.d] (.I D)) none false,.N,.N,.a (.c false [.d,.d,.d] (.b E)) none false,.N] [] [] [2] [] rfl rfl rfl ⟨⟨⟨tt_,rfl⟩,(Qj4 _ s)⟩,(Qc9 _ _ _ t)⟩ rfl (by kernel_rfl) rfl rfl rfl ?_
 refine tg_ hC [.n 2] rfl ?_
 cases h
 exact d1_ rfl rfl tt_
def Qkw (a:QO):Option Bool:=
 (QgG a).bind fun b=>
 bif b then
 bif (decide (a.Enough≤a.Done))then
 some true
 else
 some (a.Open==0)
 else
 some false
def Qfo (a:Bool):Option Bool:=
 some a
def Qjo (a:QO):Option Bool:=
 (Qkw a).bind (fun b=>Qfo b)
theorem Qkx (f){r}(h:Qjo f=some r):Qh prog 51 [.agg (Qah f)] [] (Qt (.b r) []):=by
 refine Qh.walk 17 func51 rfl rfl rfl fun C hC=>?_
 refine tg_ hC [.n 7] rfl ?_
 obtain⟨g,i,h⟩:=Qf h
 replace h:Qfo g=some r:=h
 refine AK.meetX (fun σ=>σ=⟨[(2,.b g)],[]⟩) ?_ ?_
 ·replace h:=i
  obtain⟨k,j,h⟩:=Qf h
  refine Qa hC [.n 1,.v .no [] (.agg (Qah f)),.o (.c false [.d] (.b k)),.n 1] rfl ⟨⟨tt_,rfl⟩,(Qha _ j)⟩ ?_
  refine bg_ h (fun a h=>Qa hC [.S 5 (.b true),.n 6] rfl (tc_ a) ?_) fun a h=>Qa hC [.S 5 (.b false),.n 13,.K [2] []] rfl (tc_ a) ?_
  ·refine bg_ h (fun e h=>Qa hC [.S 11 (.b true),.n 7,.K [2] []] rfl (tc_ e) ?_) fun e h=>Qa hC [.S 11 (.b false),.n 7,.K [2] []] rfl (tc_ e) ?_
   ·cases h
    exact AK.met rfl
   cases h
   exact AK.met rfl
  cases h
  exact AK.met rfl
 rintro σ rfl
 replace h:Qfo g=some r:=h
 refine tg_ hC [.n 2] rfl ?_
 cases h
 exact d1_ rfl rfl tt_
def QjD (a:Qk)(b:Int)(next_2:Int):Option Bool:=
 bif (decide (a.Id≤b))then
 some true
 else
 bif (decide (next_2≤a.Id))then
 some true
 else
 bif (decide (a.Until<0))then
 some true
 else
 (QgG a.Batch).bind fun c=>
 bif (!c)then
 some true
 else
 (Qjo a.Batch).bind fun d=>
 some d
def Qen (a:Qk)(c:Int)(b:Bool):Option ((Int×Int)⊕(Unit⊕Unit)):=
 bif b then
 some (.inr (.inl ()))
 else
 some (.inl (a.Id,(w64 (c+1))))
def QgH (e:(List Qk))(next_2:Int)(a:Int)(c:Int):Option ((Int×Int)⊕(Unit⊕Unit)):=
 bif (decide (c<(e.length:Int)))then
 (idx e c).bind fun b=>
 (QjD b a next_2).bind (fun d=>Qen b c d)
 else
 some (.inr (.inr ()))
def QgI : Option Bool:=
 some false
def QgJ (a:(List Qk)):Option Bool:=
 some (decide ((a.length:Int)≤64))
def QfR (a:(List Qk))(next_2:Int):Option Bool:=
 (QH (fun st=>QgH a next_2 st.1 st.2) (0,0)).bind (Sum.elim (fun q=>QgI) (fun q=>QgJ a))
theorem QgK (f next_2){r}(h:QfR f next_2=some r):Qh prog 21 [.sl 11 (f.map Qd),.I next_2] [] (Qt (.b r) []):=by
 refine Qh.walk 46 func21 rfl rfl rfl fun C hC=>?_
 refine Qa hC [.n 14,.o (.ln f.length),.n 4,.K [0,1,5,8,9,10] []] rfl ⟨tt_,Ql⟩ ?_
 obtain⟨y,s,h⟩:=Qf h
 refine AK.loop (body:=(fun st=>QgH f next_2 st.1 st.2)) (fun st σ=>σ=⟨[(0,.sl 11 (f.map Qd)),(1,.I next_2),(5,.I st.1),(8,.sl 11 (f.map Qd)),(9,.I (f.length:Int)),(10,.I st.2)],[]⟩) (Sum.elim (fun q e σ=>e=.ret∧σ=⟨[(4,.b false)],[]⟩) (fun q e σ=>e=.exit 0∧σ=⟨[(0,.sl 11 (f.map Qd))],[]⟩)) s rfl ?_ ?_
 ·rintro ⟨z,A⟩ o σ rfl h
  refine tg_ hC [.n 6] rfl ?_
  rcases QN h with⟨m,h⟩|⟨m,h⟩
  ·obtain⟨a,t,h⟩:=Qf h
   refine Qa hC [.T,.n 6,.o (.row (Qd a)),.v .no [] (.agg (Qd a)),.n 2,.O 7 (.var (Qd a)),.n 4] rfl ⟨⟨⟨⟨tt_,m⟩,(Qa5 t)⟩,rfl⟩,rfl⟩ ?_
   obtain⟨p,u,h⟩:=Qf h
   replace h:Qen a A p=some o:=h
   refine AK.meetX (fun σ=>σ=⟨[(0,.sl 11 (f.map Qd)),(1,.I next_2),(7,.loc 7 0 0),(8,.sl 11 (f.map Qd)),(9,.I (f.length:Int)),(10,.I A),(39,.b p)],[(7,.var (Qd a))]⟩) ?_ ?_
   ·replace h:=u
    refine tg_ hC [.n 6] rfl ?_
    refine bg_ h (fun g h=>Qa hC [.S 18 (.b true),.n 22,.K [0,1,7,8,9,10,39] [7]] rfl (tc_ g) ?_) fun g h=>Qa hC [.S 18 (.b false),.n 6] rfl (tc_ g) ?_
    ·cases h
     exact AK.met rfl
    refine bg_ h (fun i h=>Qa hC [.S 24 (.b true),.n 16,.K [0,1,7,8,9,10,39] [7]] rfl (tc_ i) ?_) fun i h=>Qa hC [.S 24 (.b false),.n 5] rfl (tc_ i) ?_
    ·cases h
     exact AK.met rfl
    rcases QN h with⟨j,h⟩|⟨j,h⟩
    ·refine Qa hC [.S 29 (.b true),.n 11,.K [0,1,7,8,9,10,39] [7]] rfl (tc_ j) ?_
     cases h
     exact AK.met rfl
    obtain⟨B,w,h⟩:=Qf h
    refine Qa hC [.S 29 (.b false),.n 1,.v .no [] (.agg (Qah a.Batch)),.o (.c false [.d] (.b B)),.n 3] rfl ⟨⟨(tc_ j),rfl⟩,(Qha _ w)⟩ ?_
    rcases QN h with⟨k,h⟩|⟨k,h⟩
    ·refine Qa hC [.S 35 (.b true),.n 5,.K [0,1,7,8,9,10,39] [7]] rfl (tc_ k) ?_
     cases h
     exact AK.met rfl
    obtain⟨D,x,h⟩:=Qf h
    refine Qa hC [.S 35 (.b false),.n 1,.v .no [] (.agg (Qah a.Batch)),.o (.c false [.d] (.b D)),.n 2,.K [0,1,7,8,9,10,39] [7]] rfl ⟨⟨(tc_ k),rfl⟩,(Qkx _ x)⟩ ?_
    cases h
    exact AK.met rfl
   rintro σ rfl
   replace h:Qen a A p=some o:=h
   refine tg_ hC [.n 1] rfl ?_
   refine bg_ h (fun l h=>Qa hC [.T,.n 9,.K [4] []] rfl ⟨tt_,l⟩ ?_) fun l h=>Qa hC [.F,.n 13,.K [0,1,5,8,9,10] []] rfl ⟨tt_,l⟩ ?_
   ·cases h
    exact QfP rfl (an_ rfl rfl)
   cases h
   exact QaP rfl rfl
  refine Qa hC [.F,.n 2,.K [0] []] rfl ⟨tt_,m⟩ ?_
  cases h
  exact QaL rfl (an_ rfl rfl)
 rcases y with(_ | _)
 ·replace h:QgI=some r:=h
  rintro e σ ⟨rfl,rfl⟩
  refine tg_ hC [.n 2] rfl ?_
  cases h
  exact d1_ rfl rfl tt_
 replace h:QgJ f=some r:=h
 rintro e σ ⟨rfl,rfl⟩
 refine Qa hC [.n 5,.o (.ln f.length),.n 5] rfl ⟨tt_,Ql⟩ ?_
 cases h
 exact d1_ rfl rfl tt_
def Qch (c:QBg)(e:QBg)(b:Int):Option (Int⊕(Unit⊕Unit)):=
 bif (decide (b<(c.length:Int)))then
 (idx c b).bind fun d=>
 (idx e b).bind fun a=>
 bif (!((d.1==a.1)&&(d.2==a.2)))then
 some (.inr (.inl ()))
 else
 some (.inl (w64 (b+1)))
 else
 some (.inr (.inr ()))
def Qci : Option Bool:=
 some false
def Qcj : Option Bool:=
 some true
def QcT (a:QBg)(b:QBg):Option Bool:=
 bif ((a.length:Int) != (b.length:Int))then
 some false
 else
 (QH (fun st=>Qch a b st) 0).bind (Sum.elim (fun q=>Qci) (fun q=>Qcj))
theorem QeE (f j){r}(h:QcT f j=some r):Qh prog 96 [.sl 2 (f.map Qy),.sl 2 (j.map Qy)] [] (Qt (.b r) []):=by
 refine Qh.walk 26 func96 rfl rfl rfl fun C hC=>?_
 refine Qa hC [.n 9,.o (.ln f.length),.n 1,.o (.ln j.length),.n 3] rfl ⟨⟨tt_,Ql⟩,Ql⟩ ?_
 refine bg_ h (fun g h=>Qa hC [.T,.n 7,.K [4] []] rfl ⟨tt_,g⟩ ?_) fun g h=>Qa hC [.F,.n 6,.o (.ln f.length),.n 4,.K [0,1,12,13] []] rfl ⟨⟨tt_,g⟩,Ql⟩ ?_
 ·cases h
  exact d1_ rfl rfl tt_
 obtain⟨p,k,h⟩:=Qf h
 refine AK.loop (body:=(fun st=>Qch f j st)) (fun st σ=>σ=⟨[(0,.sl 2 (f.map Qy)),(1,.sl 2 (j.map Qy)),(12,.I (f.length:Int)),(13,.I st)],[]⟩) (Sum.elim (fun q e σ=>e=.ret∧σ=⟨[(4,.b false)],[]⟩) (fun q e σ=>e=.exit 0∧σ=⟨[],[]⟩)) k rfl ?_ ?_
 ·rintro u o σ rfl h
  refine tg_ hC [.n 6] rfl ?_
  rcases QN h with⟨i,h⟩|⟨i,h⟩
  ·obtain⟨m,s,h⟩:=Qf h
   obtain⟨d,l,h⟩:=Qf h
   refine Qa hC [.T,.n 11,.K [0,1,5,12,13] []] rfl ⟨tt_,i⟩ ?_
   refine AK.draw2 Qo hC mixed [.N,.N,.a (.row (Qy m)) none false,.a .no (some ([],.agg (Qy m))) false,.N,.N,.a (.row (Qy d)) none false,.a .no (some ([],.agg (Qy d))) false,.a (.any (.b (!((m.1==d.1)&&(m.2==d.2)))) none) none false] [] [] [0,1,12,13,24] [] rfl rfl rfl ⟨⟨⟨⟨⟨tt_,(Qa5 s)⟩,rfl⟩,(Qa5 l)⟩,rfl⟩,(fun σ t v _=>Stp.neAgg rfl rfl (Qz hC.n rfl) (t _ _ rfl) (t _ _ rfl) rfl rfl (QnV _ _ _ _))⟩ rfl (by kernel_rfl) rfl rfl rfl ?_
   refine tg_ hC [.n 1] rfl ?_
   refine bg_ h (fun c h=>Qa hC [.T,.n 8,.K [4] []] rfl ⟨tt_,c⟩ ?_) fun c h=>Qa hC [.F,.n 7,.K [0,1,12,13] []] rfl ⟨tt_,c⟩ ?_
   ·cases h
    exact QfP rfl (an_ rfl rfl)
   cases h
   exact QaP rfl rfl
  refine Qa hC [.F,.n 2,.K [] []] rfl ⟨tt_,i⟩ ?_
  cases h
  exact QaL rfl (an_ rfl rfl)
 rcases p with(_ | _)
 ·replace h:Qci=some r:=h
  rintro e σ ⟨rfl,rfl⟩
  refine tg_ hC [.n 2] rfl ?_
  cases h
  exact d1_ rfl rfl tt_
 replace h:Qcj=some r:=h
 rintro e σ ⟨rfl,rfl⟩
 refine tg_ hC [.n 8] rfl ?_
 cases h
 exact d1_ rfl rfl tt_
def Qhb (a:QBg)(b:QBg):Option Bool:=
 (QcT a b).bind fun c=>
 some c
theorem QiZ (e f){r}(h:Qhb e f=some r):Qh prog 63 [.sl 2 (e.map Qy),.sl 2 (f.map Qy)] [] (Qt (.b r) []):=by
 refine Qh.walk 8 func63 rfl rfl rfl fun C hC=>?_
 obtain⟨g,a,h⟩:=Qf h
 refine Qa hC [.n 9,.o (.c false [.d,.d] (.b g)),.n 4] rfl ⟨tt_,(QeE _ _ a)⟩ ?_
 cases h
 exact d1_ rfl rfl tt_
def Qad (d:QMk)(e:QMk)(a:Int):Option (Int⊕(Unit⊕Unit)):=
 bif (decide (a<(d.length:Int)))then
 (idx d a).bind fun f=>
 (idx e a).bind fun b=>
 (Qhb f b).bind fun c=>
 bif (!c)then
 some (.inr (.inl ()))
 else
 some (.inl (w64 (a+1)))
 else
 some (.inr (.inr ()))
def Qae : Option Bool:=
 some false
def Qaf : Option Bool:=
 some true
def Qan (a:QMk)(b:QMk):Option Bool:=
 bif ((a.length:Int) != (b.length:Int))then
 some false
 else
 (QH (fun st=>Qad a b st) 0).bind (Sum.elim (fun q=>Qae) (fun q=>Qaf))
theorem Qbd (f j){r}(h:Qan f j=some r):Qh prog 62 [.sl 1 (f.map QG),.sl 1 (j.map QG),.clo (.func 63) [] []] [] (Qt (.b r) []):=by
 refine Qh.walk 32 func62 rfl rfl rfl fun C hC=>?_
 refine Qa hC [.n 9,.o (.ln f.length),.n 1,.o (.ln j.length),.n 3] rfl ⟨⟨tt_,Ql⟩,Ql⟩ ?_
 refine bg_ h (fun g h=>Qa hC [.T,.n 7,.K [6] []] rfl ⟨tt_,g⟩ ?_) fun g h=>Qa hC [.F,.n 6,.o (.ln f.length),.n 4,.K [1,2,15,16,17] []] rfl ⟨⟨tt_,g⟩,Ql⟩ ?_
 ·cases h
  exact d1_ rfl rfl tt_
 obtain⟨p,k,h⟩:=Qf h
 refine AK.loop (body:=(fun st=>Qad f j st)) (fun st σ=>σ=⟨[(1,.sl 1 (j.map QG)),(2,.clo (.func 63) [] []),(15,.sl 1 (f.map QG)),(16,.I (f.length:Int)),(17,.I st)],[]⟩) (Sum.elim (fun q e σ=>e=.ret∧σ=⟨[(6,.b false)],[]⟩) (fun q e σ=>e=.exit 0∧σ=⟨[],[]⟩)) k rfl ?_ ?_
 ·rintro w o σ rfl h
  refine tg_ hC [.n 6] rfl ?_
  rcases QN h with⟨i,h⟩|⟨i,h⟩
  ·obtain⟨v,s,h⟩:=Qf h
   obtain⟨t,l,h⟩:=Qf h
   obtain⟨u,m,h⟩:=Qf h
   refine Qa hC [.T,.n 7,.o (.row (QG v)),.n 9,.o (.row (QG t)),.n 9,.o (.c false [.d,.d] (.b u)),.n 3] rfl ⟨⟨⟨⟨tt_,i⟩,(Qa5 s)⟩,(Qa5 l)⟩,(QiZ _ _ m)⟩ ?_
   refine bg_ h (fun a h=>Qa hC [.T,.n 8,.K [6] []] rfl ⟨tt_,a⟩ ?_) fun a h=>Qa hC [.F,.n 7,.K [1,2,15,16,17] []] rfl ⟨tt_,a⟩ ?_
   ·cases h
    exact QfP rfl (an_ rfl rfl)
   cases h
   exact QaP rfl rfl
  refine Qa hC [.F,.n 2,.K [] []] rfl ⟨tt_,i⟩ ?_
  cases h
  exact QaL rfl (an_ rfl rfl)
 rcases p with(_ | _)
 ·replace h:Qae=some r:=h
  rintro e σ ⟨rfl,rfl⟩
  refine tg_ hC [.n 2] rfl ?_
  cases h
  exact d1_ rfl rfl tt_
 replace h:Qaf=some r:=h
 rintro e σ ⟨rfl,rfl⟩
 refine tg_ hC [.n 8] rfl ?_
 cases h
 exact d1_ rfl rfl tt_
def QdC (c:(List Int))(d:(List Int))(a:Int):Option (Int⊕(Unit⊕Unit)):=
 bif (decide (a<(c.length:Int)))then
 (idx c a).bind fun e=>
 (idx d a).bind fun b=>
 bif (e != b)then
 some (.inr (.inl ()))
 else
 some (.inl (w64 (a+1)))
 else
 some (.inr (.inr ()))
def QdD : Option Bool:=
 some false
def QdE : Option Bool:=
 some true
def QbE (a:(List Int))(b:(List Int)):Option Bool:=
 bif ((a.length:Int) != (b.length:Int))then
 some false
 else
 (QH (fun st=>QdC a b st) 0).bind (Sum.elim (fun q=>QdD) (fun q=>QdE))
theorem Qb1 (d i){r}(h:QbE d i=some r):Qh prog 79 [.sl 1 (d.map Qs),.sl 1 (i.map Qs)] [] (Qt (.b r) []):=by
 refine Qh.walk 26 func79 rfl rfl rfl fun C hC=>?_
 refine Qa hC [.n 9,.o (.ln d.length),.n 1,.o (.ln i.length),.n 3] rfl ⟨⟨tt_,Ql⟩,Ql⟩ ?_
 refine bg_ h (fun f h=>Qa hC [.T,.n 7,.K [4] []] rfl ⟨tt_,f⟩ ?_) fun f h=>Qa hC [.F,.n 6,.o (.ln d.length),.n 4,.K [0,1,12,13] []] rfl ⟨⟨tt_,f⟩,Ql⟩ ?_
 ·cases h
  exact d1_ rfl rfl tt_
 obtain⟨l,j,h⟩:=Qf h
 refine AK.loop (body:=(fun st=>QdC d i st)) (fun st σ=>σ=⟨[(0,.sl 1 (d.map Qs)),(1,.sl 1 (i.map Qs)),(12,.I (d.length:Int)),(13,.I st)],[]⟩) (Sum.elim (fun q e σ=>e=.ret∧σ=⟨[(4,.b false)],[]⟩) (fun q e σ=>e=.exit 0∧σ=⟨[],[]⟩)) j rfl ?_ ?_
 ·rintro t o σ rfl h
  refine tg_ hC [.n 6] rfl ?_
  rcases QN h with⟨g,h⟩|⟨g,h⟩
  ·obtain⟨s,m,h⟩:=Qf h
   obtain⟨p,k,h⟩:=Qf h
   refine Qa hC [.T,.n 11,.K [0,1,5,12,13] []] rfl ⟨tt_,g⟩ ?_
   refine AK.draw2 Qo hC mixed [.N,.N,.a (.row (Qs s)) none false,.N,.N,.N,.a (.row (Qs p)) none false,.N,.N] [] [] [0,1,12,13,24] [] rfl rfl rfl ⟨⟨tt_,(Qa5 m)⟩,(Qa5 k)⟩ rfl (by kernel_rfl) rfl rfl rfl ?_
   refine tg_ hC [.n 1] rfl ?_
   refine bg_ h (fun c h=>Qa hC [.T,.n 8,.K [4] []] rfl ⟨tt_,c⟩ ?_) fun c h=>Qa hC [.F,.n 7,.K [0,1,12,13] []] rfl ⟨tt_,c⟩ ?_
   ·cases h
    exact QfP rfl (an_ rfl rfl)
   cases h
   exact QaP rfl rfl
  refine Qa hC [.F,.n 2,.K [] []] rfl ⟨tt_,g⟩ ?_
  cases h
  exact QaL rfl (an_ rfl rfl)
 rcases l with(_ | _)
 ·replace h:QdD=some r:=h
  rintro e σ ⟨rfl,rfl⟩
  refine tg_ hC [.n 2] rfl ?_
  cases h
  exact d1_ rfl rfl tt_
 replace h:QdE=some r:=h
 rintro e σ ⟨rfl,rfl⟩
 refine tg_ hC [.n 8] rfl ?_
 cases h
 exact d1_ rfl rfl tt_
def Qix (a:Qk)(b:Qk):Option Bool:=
 bif (a.Id==b.Id)then
 bif ((a.Batch.Most==b.Batch.Most)&&((a.Batch.Enough==b.Batch.Enough)&&((a.Batch.Open==b.Batch.Open)&&((a.Batch.Done==b.Batch.Done)&&(a.Batch.Failed==b.Batch.Failed)))))then
 bif (a.Until==b.Until)then
 bif (a.Mode.Task==b.Mode.Task)then
 (QbE a.Mode.Vars b.Mode.Vars).bind fun c=>
 bif c then
 (QbE a.Mode.Ins b.Mode.Ins).bind fun d=>
 bif d then
 (QbE a.Mode.Outs b.Mode.Outs).bind fun e=>
 some e
 else
 some false
 else
 some false
 else
 some false
 else
 some false
 else
 some false
 else
 some false
def Qdt (a:Bool):Option Bool:=
 some a
def QgL (a:Qk)(b:Qk):Option Bool:=
 (Qix a b).bind (fun c=>Qdt c)
theorem Qiy (g i){r}(h:QgL g i=some r):Qh prog 65 [.agg (Qd g),.agg (Qd i)] [] (Qt (.b r) []):=by
 refine Qh.walk 58 func65 rfl rfl rfl fun C hC=>?_
 refine tg_ hC [.n 8,.K [2,3] [2,3]] rfl ?_
 refine AK.draw2 Qo hC mixed [.N,.a .no (some ([],.agg (Q4 g.Mode))) false,.a .no none true,.a .no (some ([],.agg (Q4 i.Mode))) true,.N,.N,.m .s,.m .s] [2,3] [2,3] [2,3,5,6] [2,3,5,6] rfl rfl rfl ⟨⟨tt_,rfl⟩,rfl⟩ rfl (by kernel_rfl) rfl rfl rfl ?_
 refine Qa hC [.O 5 (.var (Q4 g.Mode)),.O 6 (.var (Q4 i.Mode)),.n 2] rfl ⟨⟨tt_,rfl⟩,rfl⟩ ?_
 obtain⟨w,x,h⟩:=Qf h
 replace h:Qdt w=some r:=h
 refine AK.meetX (fun σ=>σ=⟨[(4,.b w)],[]⟩) ?_ ?_
 ·replace h:=x
  refine tg_ hC [.n 7] rfl ?_
  refine bg_ h (fun j h=>Qa hC [.S 16 (.b true),.n 1,.v .no [] (.agg (Qah g.Batch)),.n 1,.v .no [] (.agg (Qah i.Batch)),.o (.any (.b ((g.Batch.Most==i.Batch.Most)&&((g.Batch.Enough==i.Batch.Enough)&&((g.Batch.Open==i.Batch.Open)&&((g.Batch.Done==i.Batch.Done)&&(g.Batch.Failed==i.Batch.Failed)))))) none),.n 2] rfl ⟨⟨⟨(tc_ j),rfl⟩,rfl⟩,(fun σ B D _=>Stp.eqAgg rfl rfl (Qz hC.n rfl) (B _ _ rfl) (B _ _ rfl) rfl rfl (QnU _ _ _ _ _ _ _ _ _ _))⟩ ?_) fun j h=>Qa hC [.S 16 (.b false),.n 43,.K [4] []] rfl (tc_ j) ?_
  ·refine bg_ h (fun k h=>Qa hC [.S 23 (.b true),.n 7] rfl (tc_ k) ?_) fun k h=>Qa hC [.S 23 (.b false),.n 36,.K [4] []] rfl (tc_ k) ?_
   ·refine bg_ h (fun l h=>Qa hC [.S 30 (.b true),.n 7] rfl (tc_ l) ?_) fun l h=>Qa hC [.S 30 (.b false),.n 29,.K [4] []] rfl (tc_ l) ?_
    ·rcases QN h with⟨p,h⟩|⟨p,h⟩
     ·obtain⟨y,q,h⟩:=Qf h
      refine Qa hC [.S 37 (.b true),.n 4,.o (.c false [.d,.d] (.b y)),.n 2] rfl ⟨(tc_ p),(Qb1 _ _ q)⟩ ?_
      rcases QN h with⟨e,h⟩|⟨e,h⟩
      ·obtain⟨z,t,h⟩:=Qf h
       refine Qa hC [.S 44 (.b true),.n 4,.o (.c false [.d,.d] (.b z)),.n 2] rfl ⟨(tc_ e),(Qb1 _ _ t)⟩ ?_
       rcases QN h with⟨f,h⟩|⟨f,h⟩
       ·obtain⟨A,u,h⟩:=Qf h
        refine Qa hC [.S 51 (.b true),.n 4,.o (.c false [.d,.d] (.b A)),.n 3,.K [4] []] rfl ⟨(tc_ f),(Qb1 _ _ u)⟩ ?_
        cases h
        exact AK.met rfl
       refine Qa hC [.S 51 (.b false),.n 8,.K [4] []] rfl (tc_ f) ?_
       cases h
       exact AK.met rfl
      refine Qa hC [.S 44 (.b false),.n 15,.K [4] []] rfl (tc_ e) ?_
      cases h
      exact AK.met rfl
     refine Qa hC [.S 37 (.b false),.n 22,.K [4] []] rfl (tc_ p) ?_
     cases h
     exact AK.met rfl
    cases h
    exact AK.met rfl
   cases h
   exact AK.met rfl
  cases h
  exact AK.met rfl
 rintro σ rfl
 replace h:Qdt w=some r:=h
 refine tg_ hC [.n 2] rfl ?_
 cases h
 exact d1_ rfl rfl tt_
def Qao (d:(List Qk))(e:(List Qk))(a:Int):Option (Int⊕(Unit⊕Unit)):=
 bif (decide (a<(d.length:Int)))then
 (idx d a).bind fun f=>
 (idx e a).bind fun b=>
 (QgL f b).bind fun c=>
 bif (!c)then
 some (.inr (.inl ()))
 else
 some (.inl (w64 (a+1)))
 else
 some (.inr (.inr ()))
def Qap : Option Bool:=
 some false
def Qaq : Option Bool:=
 some true
def QaA (a:(List Qk))(b:(List Qk)):Option Bool:=
 bif ((a.length:Int) != (b.length:Int))then
 some false
 else
 (QH (fun st=>Qao a b st) 0).bind (Sum.elim (fun q=>Qap) (fun q=>Qaq))
theorem Qbw (g k){r}(h:QaA g k=some r):Qh prog 64 [.sl 11 (g.map Qd),.sl 11 (k.map Qd),.clo (.func 65) [] []] [] (Qt (.b r) []):=by
 refine Qh.walk 32 func64 rfl rfl rfl fun C hC=>?_
 refine Qa hC [.n 9,.o (.ln g.length),.n 1,.o (.ln k.length),.n 3] rfl ⟨⟨tt_,Ql⟩,Ql⟩ ?_
 refine bg_ h (fun i h=>Qa hC [.T,.n 7,.K [6] []] rfl ⟨tt_,i⟩ ?_) fun i h=>Qa hC [.F,.n 6,.o (.ln g.length),.n 4,.K [1,2,15,16,17] []] rfl ⟨⟨tt_,i⟩,Ql⟩ ?_
 ·cases h
  exact d1_ rfl rfl tt_
 obtain⟨t,l,h⟩:=Qf h
 refine AK.loop (body:=(fun st=>Qao g k st)) (fun st σ=>σ=⟨[(1,.sl 11 (k.map Qd)),(2,.clo (.func 65) [] []),(15,.sl 11 (g.map Qd)),(16,.I (g.length:Int)),(17,.I st)],[]⟩) (Sum.elim (fun q e σ=>e=.ret∧σ=⟨[(6,.b false)],[]⟩) (fun q e σ=>e=.exit 0∧σ=⟨[],[]⟩)) l rfl ?_ ?_
 ·rintro x o σ rfl h
  refine tg_ hC [.n 6] rfl ?_
  rcases QN h with⟨j,h⟩|⟨j,h⟩
  ·obtain⟨s,u,h⟩:=Qf h
   obtain⟨f,m,h⟩:=Qf h
   obtain⟨w,p,h⟩:=Qf h
   refine Qa hC [.T,.n 7,.o (.row (Qd s)),.v .no [] (.agg (Qd s)),.n 3,.O 8 (.var (Qd s)),.n 6,.o (.row (Qd f)),.v .no [] (.agg (Qd f)),.n 2,.O 9 (.var (Qd f)),.n 5,.v .no [] (.agg (Qd s)),.v .no [] (.agg (Qd f)),.o (.c false [.d,.d] (.b w)),.n 3] rfl ⟨⟨⟨⟨⟨⟨⟨⟨⟨⟨tt_,j⟩,(Qa5 u)⟩,rfl⟩,rfl⟩,(Qa5 m)⟩,rfl⟩,rfl⟩,rfl⟩,rfl⟩,(Qiy _ _ p)⟩ ?_
   refine bg_ h (fun a h=>Qa hC [.T,.n 8,.K [6] []] rfl ⟨tt_,a⟩ ?_) fun a h=>Qa hC [.F,.n 7,.K [1,2,15,16,17] []] rfl ⟨tt_,a⟩ ?_
   ·cases h
    exact QfP rfl (an_ rfl rfl)
   cases h
   exact QaP rfl rfl
  refine Qa hC [.F,.n 2,.K [] []] rfl ⟨tt_,j⟩ ?_
  cases h
  exact QaL rfl (an_ rfl rfl)
 rcases t with(_ | _)
 ·replace h:Qap=some r:=h
  rintro e σ ⟨rfl,rfl⟩
  refine tg_ hC [.n 2] rfl ?_
  cases h
  exact d1_ rfl rfl tt_
 replace h:Qaq=some r:=h
 rintro e σ ⟨rfl,rfl⟩
 refine tg_ hC [.n 8] rfl ?_
 cases h
 exact d1_ rfl rfl tt_
def Qj6 (a:QS)(b:QS):Option Bool:=
 bif (a.Next==b.Next)then
 bif (a.Now==b.Now)then
 (Qan a.M b.M).bind fun d=>
 bif d then
 (QaA a.Items b.Items).bind fun c=>
 some c
 else
 some false
 else
 some false
 else
 some false
def Qe4 (a:Bool):Option Bool:=
 some a
def Qi0 (a:QS)(b:QS):Option Bool:=
 (Qj6 a b).bind (fun c=>Qe4 c)
theorem Qj7 (l m){r}(h:Qi0 l m=some r):Qh prog 28 [.agg (QP l),.agg (QP m)] [] (Qt (.b r) []):=by
 refine Qh.walk 31 func28 rfl rfl rfl fun C hC=>?_
 refine tg_ hC [.n 8] rfl ?_
 obtain⟨g,i,h⟩:=Qf h
 replace h:Qe4 g=some r:=h
 refine AK.meetX (fun σ=>σ=⟨[(4,.b g)],[]⟩) ?_ ?_
 ·replace h:=i
  refine tg_ hC [.n 7] rfl ?_
  refine bg_ h (fun a h=>Qa hC [.S 10 (.b true),.n 7] rfl (tc_ a) ?_) fun a h=>Qa hC [.S 10 (.b false),.n 22,.K [4] []] rfl (tc_ a) ?_
  ·rcases QN h with⟨c,h⟩|⟨c,h⟩
   ·obtain⟨o,j,h⟩:=Qf h
    refine Qa hC [.S 17 (.b true),.n 4,.cm (.fn) [] [] [] [.d,.d,.d] [] (.b o),.n 2] rfl ⟨(tc_ c),(Qbd _ _ j)⟩ ?_
    rcases QN h with⟨e,h⟩|⟨e,h⟩
    ·obtain⟨k,f,h⟩:=Qf h
     refine Qa hC [.S 24 (.b true),.n 4,.cm (.fn) [] [] [] [.d,.d,.d] [] (.b k),.n 3,.K [4] []] rfl ⟨(tc_ e),(Qbw _ _ f)⟩ ?_
     cases h
     exact AK.met rfl
    refine Qa hC [.S 24 (.b false),.n 8,.K [4] []] rfl (tc_ e) ?_
    cases h
    exact AK.met rfl
   refine Qa hC [.S 17 (.b false),.n 15,.K [4] []] rfl (tc_ c) ?_
   cases h
   exact AK.met rfl
  cases h
  exact AK.met rfl
 rintro σ rfl
 replace h:Qe4 g=some r:=h
 refine tg_ hC [.n 2] rfl ?_
 cases h
 exact d1_ rfl rfl tt_
def QjE (a:(List Qk))(o:(List Int))(b:(Int×QW))(d:(Int×QW))(c:(Int×QS)):Option Bool:=
 bif ((a.length:Int)==3)then
 (idx a 0).bind fun e=>
 bif (e.Id==2)then
 (idx a 2).bind fun f=>
 bif (f.Id==9)then
 (QgC a 5).bind fun g=>
 bif (g==1)then
 (QgC a 4).bind fun h=>
 bif (h==(-1))then
 (Qjn a 3).bind fun i=>
 (Qcd i ([9,2,5]:List Int)).bind fun j=>
 bif j then
 (QfR a 10).bind fun k=>
 bif k then
 (QfR a 9).bind fun l=>
 bif (!l)then
 (Qgz a 5).bind fun m=>
 bif ((m.length:Int)==2)then
 bif ((o.length:Int)==56)then
 bif (b.2.Do==6)then
 bif (b.1==0)then
 bif (d.1==4)then
 bif (c.1==0)then
 (Qi0 c.2 (QS.mk ([([(1,2)]:List (Int×Int)),([]:QBg)]:List QBg) a 10 4)).bind fun n=>
 some n
 else
 some false
 else
 some false
 else
 some false
 else
 some false
 else
 some false
 else
 some false
 else
 some false
 else
 some false
 else
 some false
 else
 some false
 else
 some false
 else
 some false
 else
 some false
 else
 some false
def Qeo (a:Bool):Option Bool:=
 some a
def QfS  : Option Bool:=
 (QeP 5 3).bind fun h=>
 (QfA ([]:List Qk) h).bind fun i=>
 (QeP 2 3).bind fun j=>
 (QfA i j).bind fun k=>
 (QeP 9 1).bind fun l=>
 (QfA k l).bind fun g=>
 (QfK (QW.mk 6 0 (QZ.mk 0 ([]:(List Int)) ([]:(List Int)) ([]:(List Int))) 0)).bind fun a=>
 bif ((a.length:Int) != 56)then
 some false
 else
 (QaQ a).bind fun b=>
 (chk (decide (0≤1)&&decide (1≤a.length)&&decide (a.length≤a.length))).bind fun _=>
 (QaQ ((a.drop 1).take (a.length-1))).bind fun c=>
 (QfL (QS.mk ([([(1,2)]:List (Int×Int)),([]:QBg)]:List QBg) g 10 4)).bind fun d=>
 (Qa7 d).bind fun e=>
 (QjE g a b c e).bind (fun f=>Qeo f)
theorem QjF  {r:Bool}(h:QfS  = some r):Qh prog 9 [] [] (Qt (.b r) []):=by
 refine Qh.walk 118 func9 rfl rfl rfl fun C hC=>?_
 obtain⟨x3,a6,h⟩:=Qf h
 obtain⟨x4,a7,h⟩:=Qf h
 obtain⟨x5,a8,h⟩:=Qf h
 obtain⟨x6,a9,h⟩:=Qf h
 obtain⟨x7,b0,h⟩:=Qf h
 obtain⟨z,b1,h⟩:=Qf h
 obtain⟨H,b2,h⟩:=Qf h
 refine Qa hC [.n 7,.o (.c false [.d,.d] (.agg (Qd x3))),.o (.co false [.n 11,.d] 11 (x4.map Qd) x4.length),.o (.c false [.d,.d] (.agg (Qd x5))),.frz 11 (x4.map Qd) [11] [],.o (.co false [.d,.d] 11 (x6.map Qd) x6.length),.o (.c false [.d,.d] (.agg (Qd x7))),.frz 13 (x6.map Qd) [13] [],.o (.co false [.d,.d] 11 (z.map Qd) z.length),.n 5,.v .no [none,none,none,some 1,some 1,some 1,none] (.agg (QD (QW.mk 6 0 (QZ.mk 0 ([]:(List Int)) ([]:(List Int)) ([]:(List Int))) 0))),.o (.co false [.d] 1 (H.map Qp) H.length),.n 11] rfl ⟨⟨⟨⟨⟨⟨⟨⟨⟨⟨tt_,(QeQ _ _ a6)⟩,⟨(Qfm _ _ a7),Ql,.inl rfl⟩⟩,(QeQ _ _ a8)⟩,⟨tt_,(Qbc Ql)⟩⟩,⟨(Qfm _ _ a9),Ql,.inl rfl⟩⟩,(QeQ _ _ b0)⟩,⟨tt_,(Qbc Ql)⟩⟩,⟨(Qfm _ _ b1),Ql,.inl rfl⟩⟩,rfl⟩,⟨(QhL _ b2),Ql,.inl rfl⟩⟩ ?_
 rcases QN h with⟨a,h⟩|⟨a,h⟩
 ·refine Qa hC [.T,.n 7] rfl ⟨tt_,a⟩ ?_
  cases h
  exact d1_ rfl rfl tt_
 obtain⟨A,J,h⟩:=Qf h
 obtain⟨y,h⟩:=QbS h
 obtain⟨B,L,h⟩:=Qf h
 obtain⟨D,M,h⟩:=Qf h
 obtain⟨x,N,h⟩:=Qf h
 refine Qa hC [.F,.n 5,.frz 17 (H.map Qp) [2,17,18,22] [],.o (.c false [.d] (.tup [.agg (QD A.2),.I A.1])),.n 5,.O 3 (.var (QD A.2)),.n 6,.o (.any (.sl 1 (((H.drop 1).take (H.length-1)).map Qp)) none),.o (.c false [.d] (.tup [.agg (QD B.2),.I B.1])),.n 5,.O 5 (.var (QD B.2)),.n 5,.v .no [] (.agg (Qy (1,2))),.v (.bd []) [] (.sl 2 (([(1,2)]:List (Int×Int)).map Qy)),.v (.bd [none,some 2]) [] (.sl 1 (([([(1,2)]:List (Int×Int)),([]:QBg)]:List QBg).map QG)),.n 1,.v .no [] (.agg [.sl 1 (([([(1,2)]:List (Int×Int)),([]:QBg)]:List QBg).map QG),.own 15 z.length,.I 10,.I 4]),.n 2,.O 7 (.var [.sl 1 (([([(1,2)]:List (Int×Int)),([]:QBg)]:List QBg).map QG),.own 15 z.length,.I 10,.I 4]),.n 5,.frz 15 (z.map Qd) [1,15,35,36,38] [7],.cm (.fn) [] [(39,600)] [] [.d] [(600,.arr 1 (D.map Qp))] (.own 600 D.length),.frz 39 (D.map Qp) [39] [],.o (.c false [.d] (.tup [.agg (QP x.2),.I x.1])),.n 5,.O 8 (.var (QP x.2)),.n 4] rfl ⟨⟨⟨⟨⟨⟨⟨⟨⟨⟨⟨⟨⟨⟨⟨⟨⟨tt_,a⟩,⟨⟨⟨⟨tt_,(Qbc Ql)⟩,(Qbc Ql)⟩,(Qbc Ql)⟩,(Qbc Ql)⟩⟩,(QcQ _ J)⟩,rfl⟩,(fun σ h1 h2 _=>Stp.sliceD rfl rfl (Qz hC.n rfl) (h1 _ _ rfl) (Qo.es rfl) (Bnd.val (h1 _ _ rfl) (QbO (Qlk y)) rfl) (Bnd.none_ Ql) (QbO (Qll y)) (Nat.le_of_eq Ql.symm) Qmx)⟩,(QcQ _ L)⟩,rfl⟩,rfl⟩,rfl⟩,rfl⟩,rfl⟩,rfl⟩,⟨⟨⟨⟨⟨⟨tt_,(Qbc Ql)⟩,(Qbc Ql)⟩,(Qbc Ql)⟩,⟨(Qbc Ql),tt_⟩⟩,⟨(Qbc Ql),tt_⟩⟩,⟨(Qbc Ql),tt_⟩⟩⟩,(QhM _ M)⟩,⟨tt_,(Qbc Ql)⟩⟩,(Qew _ N)⟩,rfl⟩ ?_
 obtain⟨E,P,h⟩:=Qf h
 replace h:Qeo E=some r:=h
 refine AK.meetX (fun σ=>σ=⟨[(0,.b E)],[]⟩) ?_ ?_
 ·replace h:=P
  refine Qa hC [.n 2,.o (.ln z.length),.n 2] rfl ⟨tt_,Ql⟩ ?_
  rcases QN h with⟨e,h⟩|⟨e,h⟩
  ·obtain⟨b3,U,h⟩:=Qf h
   refine Qa hC [.S 46 (.b true),.n 1,.o (.row (Qd b3)),.n 5] rfl ⟨(tc_ e),(Qa5 U)⟩ ?_
   rcases QN h with⟨f,h⟩|⟨f,h⟩
   ·obtain⟨b4,W,h⟩:=Qf h
    refine Qa hC [.S 53 (.b true),.n 1,.o (.row (Qd b4)),.n 5] rfl ⟨(tc_ f),(Qa5 W)⟩ ?_
    rcases QN h with⟨g,h⟩|⟨g,h⟩
    ·obtain⟨b5,X,h⟩:=Qf h
     refine Qa hC [.S 60 (.b true),.n 1,.o (.c false [.d,.d] (.I b5)),.n 3] rfl ⟨(tc_ g),(Qg6 _ _ X)⟩ ?_
     rcases QN h with⟨i,h⟩|⟨i,h⟩
     ·obtain⟨b6,Y,h⟩:=Qf h
      refine Qa hC [.S 65 (.b true),.n 1,.o (.c false [.d,.d] (.I b6)),.n 3] rfl ⟨(tc_ i),(Qg6 _ _ Y)⟩ ?_
      rcases QN h with⟨j,h⟩|⟨j,h⟩
      ·obtain⟨G,Z,h⟩:=Qf h
       obtain⟨b7,a0,h⟩:=Qf h
       refine Qa hC [.S 70 (.b true),.n 1,.o (.co false [.d,.d] 1 (G.map Qs) G.length),.v (.bd []) [] (.sl 1 (([9,2,5]:List Int).map Qs)),.o (.c true [.o (G.map Qs),.d] (.b b7)),.n 2] rfl ⟨⟨⟨(tc_ j),⟨(Qkv (fun _=>0) _ _ Z),Ql,.inl rfl⟩⟩,rfl⟩,⟨(QnZ rfl),(QdB _ _ a0)⟩⟩ ?_
       rcases QN h with⟨k,h⟩|⟨k,h⟩
       ·obtain⟨b8,a1,h⟩:=Qf h
        refine Qa hC [.S 76 (.b true),.n 1,.o (.c false [.d,.d] (.b b8)),.n 2] rfl ⟨(tc_ k),(QgK _ _ a1)⟩ ?_
        rcases QN h with⟨l,h⟩|⟨l,h⟩
        ·obtain⟨b9,a2,h⟩:=Qf h
         refine Qa hC [.S 80 (.b true),.n 1,.o (.c false [.d,.d] (.b b9)),.n 3] rfl ⟨(tc_ l),(QgK _ _ a2)⟩ ?_
         rcases QN h with⟨m,h⟩|⟨m,h⟩
         ·obtain⟨a3,a4,h⟩:=Qf h
          refine Qa hC [.S 85 (.b true),.n 1,.o (.co false [.d,.d] 11 (a3.map Qd) a3.length),.n 4] rfl ⟨(tc_ m),⟨(Qg4 _ _ a4),Ql,.inl rfl⟩⟩ ?_
          refine bg_ h (fun p h=>Qa hC [.S 91 (.b true),.n 1,.o (.ln H.length),.n 3] rfl ⟨(tc_ p),Ql⟩ ?_) fun p h=>Qa hC [.S 91 (.b false),.n 28,.K [0] []] rfl (tc_ p) ?_
          ·refine bg_ h (fun q h=>Qa hC [.S 96 (.b true),.n 5] rfl (tc_ q) ?_) fun q h=>Qa hC [.S 96 (.b false),.n 23,.K [0] []] rfl (tc_ q) ?_
           ·refine bg_ h (fun s h=>Qa hC [.S 101 (.b true),.n 4] rfl (tc_ s) ?_) fun s h=>Qa hC [.S 101 (.b false),.n 18,.K [0] []] rfl (tc_ s) ?_
            ·refine bg_ h (fun t h=>Qa hC [.S 105 (.b true),.n 4] rfl (tc_ t) ?_) fun t h=>Qa hC [.S 105 (.b false),.n 14,.K [0] []] rfl (tc_ t) ?_
             ·refine bg_ h (fun u h=>Qa hC [.S 109 (.b true),.n 4] rfl (tc_ u) ?_) fun u h=>Qa hC [.S 109 (.b false),.n 10,.K [0] []] rfl (tc_ u) ?_
              ·rcases QN h with⟨w,h⟩|⟨w,h⟩
               ·obtain⟨c0,a5,h⟩:=Qf h
                refine Qa hC [.S 113 (.b true),.v .no [] (.agg (QP x.2)),.v .no [] (.agg (QP (QS.mk ([([(1,2)]:List (Int×Int)),([]:QBg)]:List QBg) z 10 4))),.o (.c false [.d,.d] (.b c0)),.n 3,.K [0] []] rfl ⟨⟨⟨(tc_ w),rfl⟩,rfl⟩,(Qj7 _ _ a5)⟩ ?_
                cases h
                exact AK.met rfl
               refine Qa hC [.S 113 (.b false),.n 6,.K [0] []] rfl (tc_ w) ?_
               cases h
               exact AK.met rfl
              cases h
              exact AK.met rfl
             cases h
             exact AK.met rfl
            cases h
            exact AK.met rfl
           cases h
           exact AK.met rfl
          cases h
          exact AK.met rfl
         refine Qa hC [.S 85 (.b false),.n 34,.K [0] []] rfl (tc_ m) ?_
         cases h
         exact AK.met rfl
        refine Qa hC [.S 80 (.b false),.n 39,.K [0] []] rfl (tc_ l) ?_
        cases h
        exact AK.met rfl
       refine Qa hC [.S 76 (.b false),.n 43,.K [0] []] rfl (tc_ k) ?_
       cases h
       exact AK.met rfl
      refine Qa hC [.S 70 (.b false),.n 49,.K [0] []] rfl (tc_ j) ?_
      cases h
      exact AK.met rfl
     refine Qa hC [.S 65 (.b false),.n 54,.K [0] []] rfl (tc_ i) ?_
     cases h
     exact AK.met rfl
    refine Qa hC [.S 60 (.b false),.n 59,.K [0] []] rfl (tc_ g) ?_
    cases h
    exact AK.met rfl
   refine Qa hC [.S 53 (.b false),.n 66,.K [0] []] rfl (tc_ f) ?_
   cases h
   exact AK.met rfl
  refine Qa hC [.S 46 (.b false),.n 73,.K [0] []] rfl (tc_ e) ?_
  cases h
  exact AK.met rfl
 rintro σ rfl
 replace h:Qeo E=some r:=h
 refine tg_ hC [.n 2] rfl ?_
 cases h
 exact d1_ rfl rfl tt_
def QbQ (c:QBg)(e:QBg)(b:Int):Option (Int⊕(Unit⊕Unit)):=
 bif (decide (b<(c.length:Int)))then
 (idx c b).bind fun d=>
 (idx e b).bind fun a=>
 bif (!((d.1==a.1)&&(d.2==a.2)))then
 some (.inr (.inl ()))
 else
 some (.inl (w64 (b+1)))
 else
 some (.inr (.inr ()))
def Qe5 : Option Bool:=
 some false
def Qe6 : Option Bool:=
 some true
def Qe7 (a:QBg)(b:QBg):Option Bool:=
 bif ((a.length:Int) != (b.length:Int))then
 some false
 else
 (QH (fun st=>QbQ a b st) 0).bind (Sum.elim (fun q=>Qe5) (fun q=>Qe6))
theorem Qj8 (i j){r}(h:Qe7 i j=some r):Qh prog 97 [.sl 2 (i.map Qy),.sl 2 (j.map Qy)] [] (Qt (.b r) []):=by
 refine Qh.walk 26 func97 rfl rfl rfl fun C hC=>?_
 refine Qa hC [.n 9,.o (.ln i.length),.n 1,.o (.ln j.length),.n 3] rfl ⟨⟨tt_,Ql⟩,Ql⟩ ?_
 refine bg_ h (fun f h=>Qa hC [.T,.n 7,.K [4] []] rfl ⟨tt_,f⟩ ?_) fun f h=>Qa hC [.F,.n 9,.K [0,1,5] []] rfl ⟨tt_,f⟩ ?_
 ·cases h
  exact d1_ rfl rfl tt_
 obtain⟨p,k,h⟩:=Qf h
 refine AK.loop (body:=(fun st=>QbQ i j st)) (fun st σ=>σ=⟨[(0,.sl 2 (i.map Qy)),(1,.sl 2 (j.map Qy)),(5,.I st)],[]⟩) (Sum.elim (fun q e σ=>e=.ret∧σ=⟨[(4,.b false)],[]⟩) (fun q e σ=>e=.exit 0∧σ=⟨[],[]⟩)) k rfl ?_ ?_
 ·rintro u o σ rfl h
  refine Qa hC [.n 5,.o (.ln i.length),.n 3] rfl ⟨tt_,Ql⟩ ?_
  rcases QN h with⟨g,h⟩|⟨g,h⟩
  ·obtain⟨m,s,h⟩:=Qf h
   obtain⟨d,l,h⟩:=Qf h
   refine Qa hC [.T,.n 5,.K [0,1,5] []] rfl ⟨tt_,g⟩ ?_
   refine AK.draw2 Qo hC mixed [.N,.N,.a (.row (Qy m)) none false,.a .no (some ([],.agg (Qy m))) false,.N,.N,.a (.row (Qy d)) none false,.a .no (some ([],.agg (Qy d))) false,.a (.any (.b (!((m.1==d.1)&&(m.2==d.2)))) none) none false] [] [] [0,1,5,25] [] rfl rfl rfl ⟨⟨⟨⟨⟨tt_,(Qa5 s)⟩,rfl⟩,(Qa5 l)⟩,rfl⟩,(fun σ t v _=>Stp.neAgg rfl rfl (Qz hC.n rfl) (t _ _ rfl) (t _ _ rfl) rfl rfl (QnV _ _ _ _))⟩ rfl (by kernel_rfl) rfl rfl rfl ?_
   refine tg_ hC [.n 1] rfl ?_
   refine bg_ h (fun c h=>Qa hC [.T,.n 8,.K [4] []] rfl ⟨tt_,c⟩ ?_) fun c h=>Qa hC [.F,.n 8,.K [0,1,5] []] rfl ⟨tt_,c⟩ ?_
   ·cases h
    exact QfP rfl (an_ rfl rfl)
   cases h
   exact QaP rfl rfl
  refine Qa hC [.F,.n 2,.K [] []] rfl ⟨tt_,g⟩ ?_
  cases h
  exact QaL rfl (an_ rfl rfl)
 rcases p with(_ | _)
 ·replace h:Qe5=some r:=h
  rintro e σ ⟨rfl,rfl⟩
  refine tg_ hC [.n 2] rfl ?_
  cases h
  exact d1_ rfl rfl tt_
 replace h:Qe6=some r:=h
 rintro e σ ⟨rfl,rfl⟩
 refine tg_ hC [.n 8] rfl ?_
 cases h
 exact d1_ rfl rfl tt_
def QaZ (d:QMk)(e:QMk)(a:Int):Option (Int⊕(Unit⊕Unit)):=
 bif (decide (a<(d.length:Int)))then
 (idx d a).bind fun f=>
 (idx e a).bind fun b=>
 (Qe7 f b).bind fun c=>
 bif (!c)then
 some (.inr (.inl ()))
 else
 some (.inl (w64 (a+1)))
 else
 some (.inr (.inr ()))
def Qdu : Option Bool:=
 some false
def Qdv : Option Bool:=
 some true
def Qda (a:QMk)(b:QMk):Option Bool:=
 bif ((a.length:Int) != (b.length:Int))then
 some false
 else
 (QH (fun st=>QaZ a b st) 0).bind (Sum.elim (fun q=>Qdu) (fun q=>Qdv))
theorem Qiz (j k){r}(h:Qda j k=some r):Qh prog 66 [.sl 1 (j.map QG),.sl 1 (k.map QG)] [] (Qt (.b r) []):=by
 refine Qh.walk 27 func66 rfl rfl rfl fun C hC=>?_
 refine Qa hC [.n 9,.o (.ln j.length),.n 1,.o (.ln k.length),.n 3] rfl ⟨⟨tt_,Ql⟩,Ql⟩ ?_
 refine bg_ h (fun g h=>Qa hC [.T,.n 7,.K [4] []] rfl ⟨tt_,g⟩ ?_) fun g h=>Qa hC [.F,.n 9,.K [0,1,5] []] rfl ⟨tt_,g⟩ ?_
 ·cases h
  exact d1_ rfl rfl tt_
 obtain⟨s,l,h⟩:=Qf h
 refine AK.loop (body:=(fun st=>QaZ j k st)) (fun st σ=>σ=⟨[(0,.sl 1 (j.map QG)),(1,.sl 1 (k.map QG)),(5,.I st)],[]⟩) (Sum.elim (fun q e σ=>e=.ret∧σ=⟨[(4,.b false)],[]⟩) (fun q e σ=>e=.exit 0∧σ=⟨[],[]⟩)) l rfl ?_ ?_
 ·rintro x o σ rfl h
  refine Qa hC [.n 5,.o (.ln j.length),.n 3] rfl ⟨tt_,Ql⟩ ?_
  rcases QN h with⟨i,h⟩|⟨i,h⟩
  ·obtain⟨w,t,h⟩:=Qf h
   obtain⟨u,m,h⟩:=Qf h
   obtain⟨v,p,h⟩:=Qf h
   refine Qa hC [.T,.n 5,.K [0,1,5] []] rfl ⟨tt_,i⟩ ?_
   refine AK.draw2 Qo hC mixed [.N,.N,.a (.row (QG w)) none false,.N,.N,.N,.a (.row (QG u)) none false,.N,.a (.c false [.d,.d] (.b v)) none false,.N] [] [] [0,1,5,26] [] rfl rfl rfl ⟨⟨⟨tt_,(Qa5 t)⟩,(Qa5 m)⟩,(Qj8 _ _ p)⟩ rfl (by kernel_rfl) rfl rfl rfl ?_
   refine tg_ hC [.n 1] rfl ?_
   refine bg_ h (fun f h=>Qa hC [.T,.n 8,.K [4] []] rfl ⟨tt_,f⟩ ?_) fun f h=>Qa hC [.F,.n 8,.K [0,1,5] []] rfl ⟨tt_,f⟩ ?_
   ·cases h
    exact QfP rfl (an_ rfl rfl)
   cases h
   exact QaP rfl rfl
  refine Qa hC [.F,.n 2,.K [] []] rfl ⟨tt_,i⟩ ?_
  cases h
  exact QaL rfl (an_ rfl rfl)
 rcases s with(_ | _)
 ·replace h:Qdu=some r:=h
  rintro e σ ⟨rfl,rfl⟩
  refine tg_ hC [.n 2] rfl ?_
  cases h
  exact d1_ rfl rfl tt_
 replace h:Qdv=some r:=h
 rintro e σ ⟨rfl,rfl⟩
 refine tg_ hC [.n 8] rfl ?_
 cases h
 exact d1_ rfl rfl tt_
def Qhc (a:QZ)(b:QZ):Option Bool:=
 bif (a.Task==b.Task)then
 (Qcd a.Vars b.Vars).bind fun d=>
 bif d then
 (Qcd a.Ins b.Ins).bind fun e=>
 bif e then
 (Qcd a.Outs b.Outs).bind fun c=>
 some c
 else
 some false
 else
 some false
 else
 some false
def QdF (a:Bool):Option Bool:=
 some a
def QdU (a:QZ)(b:QZ):Option Bool:=
 (Qhc a b).bind (fun c=>QdF c)
theorem Qhd (p q){r}(h:QdU p q=some r):Qh prog 78 [.agg (Q4 p),.agg (Q4 q)] [] (Qt (.b r) []):=by
 refine Qh.walk 31 func78 rfl rfl rfl fun C hC=>?_
 refine tg_ hC [.n 8] rfl ?_
 obtain⟨i,j,h⟩:=Qf h
 replace h:QdF i=some r:=h
 refine AK.meetX (fun σ=>σ=⟨[(4,.b i)],[]⟩) ?_ ?_
 ·replace h:=j
  refine tg_ hC [.n 7] rfl ?_
  rcases QN h with⟨e,h⟩|⟨e,h⟩
  ·obtain⟨s,k,h⟩:=Qf h
   refine Qa hC [.S 10 (.b true),.n 4,.o (.c false [.d,.d] (.b s)),.n 2] rfl ⟨(tc_ e),(QdB _ _ k)⟩ ?_
   rcases QN h with⟨f,h⟩|⟨f,h⟩
   ·obtain⟨t,l,h⟩:=Qf h
    refine Qa hC [.S 17 (.b true),.n 4,.o (.c false [.d,.d] (.b t)),.n 2] rfl ⟨(tc_ f),(QdB _ _ l)⟩ ?_
    rcases QN h with⟨a,h⟩|⟨a,h⟩
    ·obtain⟨m,g,h⟩:=Qf h
     refine Qa hC [.S 24 (.b true),.n 4,.o (.c false [.d,.d] (.b m)),.n 3,.K [4] []] rfl ⟨(tc_ a),(QdB _ _ g)⟩ ?_
     cases h
     exact AK.met rfl
    refine Qa hC [.S 24 (.b false),.n 8,.K [4] []] rfl (tc_ a) ?_
    cases h
    exact AK.met rfl
   refine Qa hC [.S 17 (.b false),.n 15,.K [4] []] rfl (tc_ f) ?_
   cases h
   exact AK.met rfl
  refine Qa hC [.S 10 (.b false),.n 22,.K [4] []] rfl (tc_ e) ?_
  cases h
  exact AK.met rfl
 rintro σ rfl
 replace h:QdF i=some r:=h
 refine tg_ hC [.n 2] rfl ?_
 cases h
 exact d1_ rfl rfl tt_
def Qfg (a:Qk)(b:Qk):Option Bool:=
 bif (a.Id==b.Id)then
 bif ((a.Batch.Most==b.Batch.Most)&&((a.Batch.Enough==b.Batch.Enough)&&((a.Batch.Open==b.Batch.Open)&&((a.Batch.Done==b.Batch.Done)&&(a.Batch.Failed==b.Batch.Failed)))))then
 bif (a.Until==b.Until)then
 (QdU a.Mode b.Mode).bind fun c=>
 some c
 else
 some false
 else
 some false
 else
 some false
def Qcf (a:Bool):Option Bool:=
 some a
def Qdb (a:Qk)(b:Qk):Option Bool:=
 (Qfg a b).bind (fun c=>Qcf c)
theorem QiA (a e){r}(h:Qdb a e=some r):Qh prog 41 [.agg (Qd a),.agg (Qd e)] [] (Qt (.b r) []):=by
 refine Qh.walk 31 func41 rfl rfl rfl fun C hC=>?_
 refine tg_ hC [.n 8] rfl ?_
 obtain⟨j,k,h⟩:=Qf h
 replace h:Qcf j=some r:=h
 refine AK.meetX (fun σ=>σ=⟨[(4,.b j)],[]⟩) ?_ ?_
 ·replace h:=k
  refine tg_ hC [.n 7] rfl ?_
  refine bg_ h (fun f h=>Qa hC [.S 10 (.b true),.n 1,.v .no [] (.agg (Qah a.Batch)),.n 1,.v .no [] (.agg (Qah e.Batch)),.o (.any (.b ((a.Batch.Most==e.Batch.Most)&&((a.Batch.Enough==e.Batch.Enough)&&((a.Batch.Open==e.Batch.Open)&&((a.Batch.Done==e.Batch.Done)&&(a.Batch.Failed==e.Batch.Failed)))))) none),.n 2] rfl ⟨⟨⟨(tc_ f),rfl⟩,rfl⟩,(fun σ m q _=>Stp.eqAgg rfl rfl (Qz hC.n rfl) (m _ _ rfl) (m _ _ rfl) rfl rfl (QnU _ _ _ _ _ _ _ _ _ _))⟩ ?_) fun f h=>Qa hC [.S 10 (.b false),.n 22,.K [4] []] rfl (tc_ f) ?_
  ·refine bg_ h (fun g h=>Qa hC [.S 17 (.b true),.n 7] rfl (tc_ g) ?_) fun g h=>Qa hC [.S 17 (.b false),.n 15,.K [4] []] rfl (tc_ g) ?_
   ·rcases QN h with⟨i,h⟩|⟨i,h⟩
    ·obtain⟨p,l,h⟩:=Qf h
     refine Qa hC [.S 24 (.b true),.n 1,.v .no [] (.agg (Q4 a.Mode)),.n 1,.v .no [] (.agg (Q4 e.Mode)),.o (.c false [.d,.d] (.b p)),.n 3,.K [4] []] rfl ⟨⟨⟨(tc_ i),rfl⟩,rfl⟩,(Qhd _ _ l)⟩ ?_
     cases h
     exact AK.met rfl
    refine Qa hC [.S 24 (.b false),.n 8,.K [4] []] rfl (tc_ i) ?_
    cases h
    exact AK.met rfl
   cases h
   exact AK.met rfl
  cases h
  exact AK.met rfl
 rintro σ rfl
 replace h:Qcf j=some r:=h
 refine tg_ hC [.n 2] rfl ?_
 cases h
 exact d1_ rfl rfl tt_
def QbB (d:(List Qk))(e:(List Qk))(a:Int):Option (Int⊕(Unit⊕Unit)):=
 bif (decide (a<(d.length:Int)))then
 (idx d a).bind fun f=>
 (idx e a).bind fun b=>
 (Qdb f b).bind fun c=>
 bif (!c)then
 some (.inr (.inl ()))
 else
 some (.inl (w64 (a+1)))
 else
 some (.inr (.inr ()))
def Qep : Option Bool:=
 some false
def Qeq : Option Bool:=
 some true
def Qei (a:(List Qk))(b:(List Qk)):Option Bool:=
 bif ((a.length:Int) != (b.length:Int))then
 some false
 else
 (QH (fun st=>QbB a b st) 0).bind (Sum.elim (fun q=>Qep) (fun q=>Qeq))
theorem QjG (j k){r}(h:Qei j k=some r):Qh prog 13 [.sl 11 (j.map Qd),.sl 11 (k.map Qd)] [] (Qt (.b r) []):=by
 refine Qh.walk 29 func13 rfl rfl rfl fun C hC=>?_
 refine Qa hC [.n 9,.o (.ln j.length),.n 1,.o (.ln k.length),.n 3] rfl ⟨⟨tt_,Ql⟩,Ql⟩ ?_
 refine bg_ h (fun g h=>Qa hC [.T,.n 7,.K [4] []] rfl ⟨tt_,g⟩ ?_) fun g h=>Qa hC [.F,.n 9,.K [0,1,5] []] rfl ⟨tt_,g⟩ ?_
 ·cases h
  exact d1_ rfl rfl tt_
 obtain⟨t,l,h⟩:=Qf h
 refine AK.loop (body:=(fun st=>QbB j k st)) (fun st σ=>σ=⟨[(0,.sl 11 (j.map Qd)),(1,.sl 11 (k.map Qd)),(5,.I st)],[]⟩) (Sum.elim (fun q e σ=>e=.ret∧σ=⟨[(4,.b false)],[]⟩) (fun q e σ=>e=.exit 0∧σ=⟨[],[]⟩)) l rfl ?_ ?_
 ·rintro x o σ rfl h
  refine Qa hC [.n 5,.o (.ln j.length),.n 3] rfl ⟨tt_,Ql⟩ ?_
  rcases QN h with⟨i,h⟩|⟨i,h⟩
  ·obtain⟨w,u,h⟩:=Qf h
   obtain⟨m,p,h⟩:=Qf h
   obtain⟨v,s,h⟩:=Qf h
   refine Qa hC [.T,.n 5,.K [0,1,5] []] rfl ⟨tt_,i⟩ ?_
   refine AK.draw2 Qo hC mixed [.N,.N,.a (.row (Qd w)) none false,.a .no (some ([],.agg (Qd w))) false,.N,.N,.a (.row (Qd m)) none false,.a .no (some ([],.agg (Qd m))) false,.a (.c false [.d,.d] (.b v)) none false,.N] [] [] [0,1,5,6] [] rfl rfl rfl ⟨⟨⟨⟨⟨tt_,(Qa5 u)⟩,rfl⟩,(Qa5 p)⟩,rfl⟩,(QiA _ _ s)⟩ rfl (by kernel_rfl) rfl rfl rfl ?_
   refine tg_ hC [.n 7] rfl ?_
   refine bg_ h (fun f h=>Qa hC [.T,.n 8,.K [4] []] rfl ⟨tt_,f⟩ ?_) fun f h=>Qa hC [.F,.n 8,.K [0,1,5] []] rfl ⟨tt_,f⟩ ?_
   ·cases h
    exact QfP rfl (an_ rfl rfl)
   cases h
   exact QaP rfl rfl
  refine Qa hC [.F,.n 2,.K [] []] rfl ⟨tt_,i⟩ ?_
  cases h
  exact QaL rfl (an_ rfl rfl)
 rcases t with(_ | _)
 ·replace h:Qep=some r:=h
  rintro e σ ⟨rfl,rfl⟩
  refine tg_ hC [.n 2] rfl ?_
  cases h
  exact d1_ rfl rfl tt_
 replace h:Qeq=some r:=h
 rintro e σ ⟨rfl,rfl⟩
 refine tg_ hC [.n 8] rfl ?_
 cases h
 exact d1_ rfl rfl tt_
def Qhe (a:QS)(b:QS):Option Bool:=
 bif (a.Next==b.Next)then
 bif (a.Now==b.Now)then
 (Qda a.M b.M).bind fun d=>
 bif d then
 (Qei a.Items b.Items).bind fun c=>
 some c
 else
 some false
 else
 some false
 else
 some false
def QdG (a:Bool):Option Bool:=
 some a
def QdV (a:QS)(b:QS):Option Bool:=
 (Qhe a b).bind (fun c=>QdG c)
theorem Qj9 (m p){r}(h:QdV m p=some r):Qh prog 29 [.agg (QP m),.agg (QP p)] [] (Qt (.b r) []):=by
 refine Qh.walk 31 func29 rfl rfl rfl fun C hC=>?_
 refine tg_ hC [.n 8] rfl ?_
 obtain⟨i,j,h⟩:=Qf h
 replace h:QdG i=some r:=h
 refine AK.meetX (fun σ=>σ=⟨[(4,.b i)],[]⟩) ?_ ?_
 ·replace h:=j
  refine tg_ hC [.n 7] rfl ?_
  refine bg_ h (fun a h=>Qa hC [.S 10 (.b true),.n 7] rfl (tc_ a) ?_) fun a h=>Qa hC [.S 10 (.b false),.n 22,.K [4] []] rfl (tc_ a) ?_
  ·rcases QN h with⟨e,h⟩|⟨e,h⟩
   ·obtain⟨q,k,h⟩:=Qf h
    refine Qa hC [.S 17 (.b true),.n 4,.o (.c false [.d,.d] (.b q)),.n 2] rfl ⟨(tc_ e),(Qiz _ _ k)⟩ ?_
    rcases QN h with⟨f,h⟩|⟨f,h⟩
    ·obtain⟨l,g,h⟩:=Qf h
     refine Qa hC [.S 24 (.b true),.n 4,.o (.c false [.d,.d] (.b l)),.n 3,.K [4] []] rfl ⟨(tc_ f),(QjG _ _ g)⟩ ?_
     cases h
     exact AK.met rfl
    refine Qa hC [.S 24 (.b false),.n 8,.K [4] []] rfl (tc_ f) ?_
    cases h
    exact AK.met rfl
   refine Qa hC [.S 17 (.b false),.n 15,.K [4] []] rfl (tc_ e) ?_
   cases h
   exact AK.met rfl
  cases h
  exact AK.met rfl
 rintro σ rfl
 replace h:QdG i=some r:=h
 refine tg_ hC [.n 2] rfl ?_
 cases h
 exact d1_ rfl rfl tt_
def QaU (d:Qe)(e:Int)(a:Int):Option ((Int×Int)⊕Int):=
 bif (decide (a<8))then
 (idx d.b (w64 (d.at_+a))).bind fun c=>
 some (.inl ((IntKind.u64.wrap ((IntKind.u64.wrap (e*256))+(IntKind.u64.wrap c))),(w64 (a+1))))
 else
 some (.inr e)
def QbC (a:Qe)(c:Int):Option (Int×Qe):=
 some ((w64 c),(Qe.mk a.b (w64 (a.at_+8)) a.bad))
def Qn (a:Qe):Option (Int×Qe):=
 bif (a.bad||(decide ((a.b.length:Int)<(w64 (a.at_+8)))))then
 some (0,(Qe.mk a.b a.at_ true))
 else
 (QH (fun st=>QaU a st.1 st.2) (0,0)).bind (fun q=>QbC a q)
theorem Qv (c){r}(h:Qn c=some r):Qh prog 73 [.loc 607 0 0] [(607,.var (Qg c))] (Qt (.I r.1) [(607,.var (Qg r.2))]):=by
 refine Qh.walk 55 func73 rfl rfl rfl fun C hC=>?_
 unfold Qn at h
 refine tg_ hC [.n 7] rfl ?_
 refine AK.meetX (fun σ=>σ=⟨[(0,.loc 607 0 0),(21,.b (c.bad||(decide ((c.b.length:Int)<(w64 (c.at_+8))))))],[(607,.var (Qg c))]⟩) ?_ ?_
 ·refine tg_ hC [.K [0] [607]] rfl ?_
  rcases Qbt c.bad with d | d
  ·refine AK.draw2 Qo hC mixed [.N,.N,.N,.N,.a .no (some ([],.b true)) false,.N,.N,.N,.N,.N,.N,.N,.N,.N,.N,.N,.N] [] [] [0,21] [607] rfl rfl rfl (tc_ d) rfl (by kernel_rfl) rfl rfl rfl ?_
   refine Qa hC [.S 21 (.b (c.bad||(decide ((c.b.length:Int)<(w64 (c.at_+8)))))),.K [0,21] [607]] rfl ⟨tt_,(congrArg V.b (orT d rfl))⟩ ?_
   exact AK.met rfl
  refine AK.draw2 Qo hC mixed [.N,.N,.N,.N,.a .no (some ([],.b false)) false,.N,.N,.N,.N,.N,.N,.N,.N,.N,.a (.ln c.b.length) none false,.N,.N] [] [] [0,21] [607] rfl rfl rfl ⟨(tc_ d),Ql⟩ rfl (by kernel_rfl) rfl rfl rfl ?_
  refine Qa hC [.S 21 (.b (c.bad||(decide ((c.b.length:Int)<(w64 (c.at_+8)))))),.K [0,21] [607]] rfl ⟨tt_,(congrArg V.b (orF d rfl))⟩ ?_
  exact AK.met rfl
 rintro σ rfl
 refine tg_ hC [.n 1] rfl ?_
 refine bg_ h (fun g h=>Qa hC [.T,.n 6,.O 607 (.var (Qg (Qe.mk c.b c.at_ true))),.n 9,.K [2] [607]] rfl ⟨⟨tt_,g⟩,rfl⟩ ?_) fun g h=>Qa hC [.F,.n 14,.K [0,3,4] [607]] rfl ⟨tt_,g⟩ ?_
 ·cases h
  exact d1_ rfl rfl ⟨rfl,tt_⟩
 obtain⟨j,k,h⟩:=Qf h
 refine AK.loop (body:=(fun st=>QaU c st.1 st.2)) (fun st σ=>σ=⟨[(0,.loc 607 0 0),(3,.i .u64 st.1),(4,.I st.2)],[(607,.var (Qg c))]⟩) (fun q e σ=>e=.exit 0∧σ=⟨[(0,.loc 607 0 0),(3,.i .u64 q)],[(607,.var (Qg c))]⟩) k rfl ?_ ?_
 ·rintro ⟨w,u⟩ o σ rfl h
  refine tg_ hC [.n 7] rfl ?_
  rcases QN h with⟨f,h⟩|⟨f,h⟩
  ·obtain⟨l,p,h⟩:=Qf h
   refine Qa hC [.T,.n 4,.K [0,3,4] [607]] rfl ⟨tt_,f⟩ ?_
   refine AK.draw2 Qo hC mixed [.N,.N,.N,.N,.N,.N,.N,.N,.N,.N,.N,.N,.a (.row (Qp l)) none false,.N,.a (.any (.i .u64 (IntKind.u64.wrap l)) none) none false,.N,.m .s] [] [] [0,3,4] [607] rfl rfl rfl ⟨⟨tt_,(Qa5 p)⟩,(fun σ t v _=>Stp.convI rfl rfl (Qz hC.n rfl) (t _ _ rfl) QmC QfH)⟩ rfl (by kernel_rfl) rfl rfl rfl ?_
   refine tg_ hC [.n 7,.K [0,3,4] [607]] rfl ?_
   cases h
   exact QaP rfl rfl
  refine Qa hC [.F,.n 2,.K [0,3] [607]] rfl ⟨tt_,f⟩ ?_
  cases h
  exact QaL rfl (an_ rfl rfl)
 replace h:QbC c j=some r:=h
 rintro e σ ⟨rfl,rfl⟩
 refine Qa hC [.n 13,.O 607 (.var (Qg (Qe.mk c.b (w64 (c.at_+8)) c.bad))),.n 5,.o (.any (.I (w64 j)) none),.n 4] rfl ⟨⟨tt_,rfl⟩,(fun σ t v _=>Stp.convI rfl rfl (Qz hC.n rfl) (t _ _ rfl) QfH QmB)⟩ ?_
 cases h
 exact d1_ rfl rfl ⟨rfl,tt_⟩
def QA (c:Qe):Option (Int×Qe):=
 (Qn c).bind fun a=>
 bif ((decide (a.1<0))||(decide ((w64 ((a.2.b.length:Int)-a.2.at_))<a.1)))then
 some (0,(Qe.mk a.2.b a.2.at_ true))
 else
 some (a.1,a.2)
theorem QaO (i){r}(h:QA i=some r):Qh prog 74 [.loc 607 0 0] [(607,.var (Qg i))] (Qt (.I r.1) [(607,.var (Qg r.2))]):=by
 refine Qh.walk 26 func74 rfl rfl rfl fun C hC=>?_
 obtain⟨c,g,h⟩:=Qf h
 refine Qa hC [.n 8,.cm (.fn) [(607,607)] [(607,607)] [] [.d] [(607,.var (Qg c.2))] (.I c.1),.n 5] rfl ⟨tt_,(Qv _ g)⟩ ?_
 refine AK.meetX (fun σ=>σ=⟨[(0,.loc 607 0 0),(3,.I c.1),(21,.b ((decide (c.1<0))||(decide ((w64 ((c.2.b.length:Int)-c.2.at_))<c.1))))],[(607,.var (Qg c.2))]⟩) ?_ ?_
 ·refine tg_ hC [.K [0,3] [607]] rfl ?_
  rcases Qbt (decide (c.1<0))with e | e
  ·refine AK.draw2 Qo hC mixed [.N,.N,.a .no (some ([],.b true)) false,.N,.N,.N,.N,.N,.N,.N,.N,.N,.N,.N,.N,.N] [] [] [0,3,21] [607] rfl rfl rfl (tc_ e) rfl (by kernel_rfl) rfl rfl rfl ?_
   refine Qa hC [.S 21 (.b ((decide (c.1<0))||(decide ((w64 ((c.2.b.length:Int)-c.2.at_))<c.1)))),.K [0,3,21] [607]] rfl ⟨tt_,(congrArg V.b (orT e rfl))⟩ ?_
   exact AK.met rfl
  refine AK.draw2 Qo hC mixed [.N,.N,.a .no (some ([],.b false)) false,.N,.N,.N,.N,.N,.a (.ln c.2.b.length) none false,.N,.N,.N,.N,.N,.N,.N] [] [] [0,3,21] [607] rfl rfl rfl ⟨(tc_ e),Ql⟩ rfl (by kernel_rfl) rfl rfl rfl ?_
  refine Qa hC [.S 21 (.b ((decide (c.1<0))||(decide ((w64 ((c.2.b.length:Int)-c.2.at_))<c.1)))),.K [0,3,21] [607]] rfl ⟨tt_,(congrArg V.b (orF e rfl))⟩ ?_
  exact AK.met rfl
 rintro σ rfl
 refine tg_ hC [.n 1] rfl ?_
 refine bg_ h (fun f h=>Qa hC [.T,.n 6,.O 607 (.var (Qg (Qe.mk c.2.b c.2.at_ true))),.n 9,.K [2] [607]] rfl ⟨⟨tt_,f⟩,rfl⟩ ?_) fun f h=>Qa hC [.F,.n 9,.K [2] [607]] rfl ⟨tt_,f⟩ ?_
 ·cases h
  exact d1_ rfl rfl ⟨rfl,tt_⟩
 cases h
 exact d1_ rfl rfl ⟨rfl,tt_⟩
def QX (e:(Int×Qe))(d:Int)(b:Qe)(c:(List Int)):Option ((Int×Qe×(List Int))⊕((List Int)×Qe)):=
 bif ((decide (d<e.1))&&(!b.bad))then
 (Qn b).bind fun a=>
 (chk (decide (c.length+([a.1]:List Int).length≤4294967296))).bind fun _=>
 some (.inl ((w64 (d+1)),a.2,(c++([a.1]:List Int))))
 else
 some (.inr (c,b))
def QcE (a:(List Int))(b:Qe):Option ((List Int)×Qe):=
 some (a,b)
def QaE (b:Qe):Option ((List Int)×Qe):=
 (QA b).bind fun a=>
 (QH (fun st=>QX a st.1 st.2.1 st.2.2) (0,a.2,([]:List Int))).bind (fun q=>QcE q.1 q.2)
theorem Qbn (x){r}(h:QaE x=some r):Qh prog 101 [.loc 607 0 0] [(607,.var (Qg x))] (Qt (.own 600 r.1.length) [(600,.arr 1 (r.1.map Qs)),(607,.var (Qg r.2))]):=by
 refine Qh.walk 26 func101 rfl rfl rfl fun C hC=>?_
 obtain⟨g,s,h⟩:=Qf h
 refine Qa hC [.n 8,.cm (.fn) [(607,607)] [(607,607)] [] [.d] [(607,.var (Qg g.2))] (.I g.1),.n 15,.adopt 4 20 1,.O 20 (.arr 1 (([]:List Int).map Qs)),.S 4 (.own 20 ([]:List Int).length),.K [0,3,4,5] [20,607]] rfl ⟨⟨⟨tt_,(QaO _ s)⟩,rfl⟩,(congrArg (fun n=>V.own 20 n) (by simp))⟩ ?_
 obtain⟨t,i,h⟩:=Qf h
 refine AK.loop (body:=(fun st=>QX g st.1 st.2.1 st.2.2)) (fun st σ=>σ=⟨[(0,.loc 607 0 0),(3,.I g.1),(4,.own 20 st.2.2.length),(5,.I st.1)],[(20,.arr 1 (st.2.2.map Qs)),(607,.var (Qg st.2.1))]⟩) (fun q e σ=>e=.exit 0∧σ=⟨[(4,.own 20 q.1.length)],[(20,.arr 1 (q.1.map Qs)),(607,.var (Qg q.2))]⟩) i rfl ?_ ?_
 ·rintro ⟨j,m,p⟩ o σ rfl h
  refine tg_ hC [.n 2] rfl ?_
  refine AK.meetX (fun σ=>σ=⟨[(0,.loc 607 0 0),(3,.I g.1),(4,.own 20 p.length),(5,.I j),(17,.b ((decide (j<g.1))&&(!m.bad)))],[(20,.arr 1 (p.map Qs)),(607,.var (Qg m))]⟩) ?_ ?_
  ·refine tg_ hC [.n 5] rfl ?_
   rcases Qbt (decide (j<g.1))with a | a
   ·refine Qa hC [.S 11 (.b true),.n 7,.S 17 (.b ((decide (j<g.1))&&(!m.bad))),.K [0,3,4,5,17] [20,607]] rfl ⟨(tc_ a),(congrArg V.b (Qgq a rfl))⟩ ?_
    exact AK.met rfl
   refine Qa hC [.S 11 (.b false),.n 7,.S 17 (.b ((decide (j<g.1))&&(!m.bad))),.K [0,3,4,5,17] [20,607]] rfl ⟨(tc_ a),(congrArg V.b (Qgr a rfl))⟩ ?_
   exact AK.met rfl
  rintro σ rfl
  refine tg_ hC [.n 1] rfl ?_
  rcases QN h with⟨c,h⟩|⟨c,h⟩
  ·obtain⟨f,k,h⟩:=Qf h
   obtain⟨l,h⟩:=QbS h
   refine Qa hC [.T,.n 7,.cm (.fn) [(607,607)] [(607,607)] [] [.d] [(607,.var (Qg f.2))] (.I f.1),.v (.bd []) [] (.sl 1 (([f.1]:List Int).map Qs)),.app ((p++([f.1]:List Int)).map Qs) (p++([f.1]:List Int)).length,.n 9,.K [0,3,4,5] [20,607]] rfl ⟨⟨⟨⟨tt_,c⟩,(Qv _ k)⟩,rfl⟩,⟨Ql,Qcv l Ql,Qby,Qdy Ql⟩⟩ ?_
   cases h
   exact QaP rfl rfl
  refine Qa hC [.F,.n 2,.K [4] [20,607]] rfl ⟨tt_,c⟩ ?_
  cases h
  exact QaL rfl (an_ rfl rfl)
 obtain⟨u,w⟩:=t
 replace h:QcE u w=some r:=h
 rintro e σ ⟨rfl,rfl⟩
 refine tg_ hC [.n 9,.K [2] [20,607],.ren 20 600] rfl ?_
 cases h
 exact d1_ rfl rfl ⟨rfl,rfl,tt_⟩
def QaF (e:Qe):Option (QZ×Qe):=
 (Qn e).bind fun a=>
 (QaE a.2).bind fun b=>
 (QaE b.2).bind fun c=>
 (QaE c.2).bind fun d=>
 some ((QZ.mk a.1 b.1 c.1 d.1),d.2)
theorem QcF (k){r}(h:QaF k=some r):Qh prog 75 [.loc 607 0 0] [(607,.var (Qg k))] (Qt (.agg (Q4 r.1)) [(607,.var (Qg r.2))]):=by
 refine Qh.walk 17 func75 rfl rfl rfl fun C hC=>?_
 obtain⟨b,f,h⟩:=Qf h
 obtain⟨a,g,h⟩:=Qf h
 obtain⟨c,i,h⟩:=Qf h
 obtain⟨e,j,h⟩:=Qf h
 refine Qa hC [.n 13,.cm (.fn) [(607,607)] [(607,607)] [] [.d] [(607,.var (Qg b.2))] (.I b.1),.n 2,.O 3 (.var [.I b.1,.lit (.slice none 0 0),.lit (.slice none 0 0),.lit (.slice none 0 0)]),.n 5,.cm (.fn) [(607,607)] [(8,600),(607,607)] [] [.d] [(600,.arr 1 (a.1.map Qs)),(607,.var (Qg a.2))] (.own 600 a.1.length),.n 2,.O 3 (.var [.I b.1,.own 8 a.1.length,.lit (.slice none 0 0),.lit (.slice none 0 0)]),.n 5,.cm (.fn) [(607,607)] [(11,600),(607,607)] [] [.d] [(600,.arr 1 (c.1.map Qs)),(607,.var (Qg c.2))] (.own 600 c.1.length),.n 2,.O 3 (.var [.I b.1,.own 8 a.1.length,.own 11 c.1.length,.lit (.slice none 0 0)]),.n 5,.cm (.fn) [(607,607)] [(14,600),(607,607)] [] [.d] [(600,.arr 1 (e.1.map Qs)),(607,.var (Qg e.2))] (.own 600 e.1.length),.n 2,.O 3 (.var [.I b.1,.own 8 a.1.length,.own 11 c.1.length,.own 14 e.1.length]),.n 6,.O 2 (.var [.I b.1,.own 8 a.1.length,.own 11 c.1.length,.own 14 e.1.length]),.n 3,.frz 8 (a.1.map Qs) [] [2],.frz 11 (c.1.map Qs) [] [2],.frz 14 (e.1.map Qs) [] [2],.K [2] [2,607]] rfl ⟨⟨⟨⟨⟨⟨⟨⟨⟨⟨⟨⟨tt_,(Qv _ f)⟩,rfl⟩,(Qbn _ g)⟩,rfl⟩,(Qbn _ i)⟩,rfl⟩,(Qbn _ j)⟩,rfl⟩,rfl⟩,⟨tt_,⟨(Qbc Ql),⟨tt_,⟨tt_,tt_⟩⟩⟩⟩⟩,⟨tt_,⟨(Qbc Ql),⟨tt_,tt_⟩⟩⟩⟩,⟨tt_,⟨(Qbc Ql),tt_⟩⟩⟩ ?_
 cases h
 exact AK.done (ex_ [_] (an_ (an_ (ex_ _ (ex_ _ (an_ rfl (an_ rfl (Or.inl (an_ (Qo.ag rfl) (an_ (Qo.sz rfl) rfl))))))) tt_) (Qas ⟨rfl,tt_⟩)))
def Q7 (f:(Int×Qe))(e:Int)(a:Qe)(b:QBg):Option ((Int×Qe×QBg)⊕(Qe×QBg)):=
 bif ((decide (e<f.1))&&(!a.bad))then
 (Qn a).bind fun c=>
 (Qn c.2).bind fun d=>
 (chk (decide (b.length+([(c.1,d.1)]:List (Int×Int)).length≤4294967296))).bind fun _=>
 some (.inl ((w64 (e+1)),d.2,(b++([(c.1,d.1)]:List (Int×Int)))))
 else
 some (.inr (a,b))
def QeA (a:QMk)(c:Int)(d:Qe)(b:QBg):Option ((Int×Qe×QMk)⊕(Qe×QMk)):=
 (chk (decide (a.length+([b]:List QBg).length≤4294967296))).bind fun _=>
 some (.inl ((w64 (c+1)),d,(a++([b]:List QBg))))
def Q8 (e:(Int×Qe))(b:Int)(a:Qe)(c:QMk):Option ((Int×Qe×QMk)⊕(Qe×QMk)):=
 bif ((decide (b<e.1))&&(!a.bad))then
 (QA a).bind fun d=>
 (QH (fun st=>Q7 d st.1 st.2.1 st.2.2) (0,d.2,([]:List (Int×Int)))).bind (fun q=>QeA c b q.1 q.2)
 else
 some (.inr (a,c))
def Q9 (l:(Int×Qe))(k:Int)(a:Qe)(b:(List Qk)):Option ((Int×Qe×(List Qk))⊕(Qe×(List Qk))):=
 bif ((decide (k<l.1))&&(!a.bad))then
 (Qn a).bind fun c=>
 (QaF c.2).bind fun d=>
 (Qn d.2).bind fun e=>
 (Qn e.2).bind fun f=>
 (Qn f.2).bind fun g=>
 (Qn g.2).bind fun h=>
 (Qn h.2).bind fun i=>
 (Qn i.2).bind fun j=>
 (chk (decide (b.length+([(Qk.mk c.1 d.1 (QO.mk e.1 f.1 g.1 h.1 i.1) j.1)]:List Qk).length≤4294967296))).bind fun _=>
 some (.inl ((w64 (k+1)),j.2,(b++([(Qk.mk c.1 d.1 (QO.mk e.1 f.1 g.1 h.1 i.1) j.1)]:List Qk))))
 else
 some (.inr (a,b))
def QeB (d:(List Int))(b:QMk)(e:(Int×Qe))(f:(Int×Qe))(a:Qe)(c:(List Qk)):Option (Int×QS):=
 bif (a.bad||(a.at_ != (d.length:Int)))then
 some (4,(QS.mk ([]:QMk) ([]:(List Qk)) 0 0))
 else
 some (0,(QS.mk b c e.1 f.1))
def QeC (d:(List Int))(e:(Int×Qe))(f:(Int×Qe))(b:Qe)(c:QMk):Option (Int×QS):=
 (QA b).bind fun a=>
 (QH (fun st=>Q9 a st.1 st.2.1 st.2.2) (0,a.2,([]:List Qk))).bind (fun q=>QeB d c e f q.1 q.2)
def QbL (a:(List Int)):Option (Int×QS):=
 (Qn (Qe.mk a 0 false)).bind fun b=>
 (Qn b.2).bind fun c=>
 (QA c.2).bind fun d=>
 (QH (fun st=>Q8 d st.1 st.2.1 st.2.2) (0,d.2,([]:List QBg))).bind (fun q=>QeC a b c q.1 q.2)
theorem QhR (x){r}(h:QbL x=some r):Qh prog 31 [.sl 1 (x.map Qp)] [] (Qt (.tup [.agg (QP r.2),.I r.1]) []):=by
 refine Qh.walk 130 func31 rfl rfl rfl fun C hC=>?_
 obtain⟨k,c3,h⟩:=Qf h
 obtain⟨m,c4,h⟩:=Qf h
 obtain⟨L,c5,h⟩:=Qf h
 refine Qa hC [.n 9,.v .no [] (.agg (Qg (Qe.mk x 0 false))),.n 12,.cm (.fn) [(607,16)] [(16,607)] [] [.d] [(607,.var (Qg k.2))] (.I k.1),.n 2,.O 5 (.var [.lit (.slice none 0 0),.lit (.slice none 0 0),.I k.1,.I 0]),.n 5,.cm (.fn) [(607,16)] [(16,607)] [] [.d] [(607,.var (Qg m.2))] (.I m.1),.n 2,.O 5 (.var [.lit (.slice none 0 0),.lit (.slice none 0 0),.I k.1,.I m.1]),.n 5,.cm (.fn) [(607,16)] [(16,607)] [] [.d] [(607,.var (Qg L.2))] (.I L.1),.n 10,.adoptO 5 0 61 1,.O 61 (.arr 1 (([]:List QBg).map QG)),.O 5 (.var [.own 61 ([]:List QBg).length,.lit (.slice none 0 0),.I k.1,.I m.1]),.K [0,2,4,5,6,7] [2,5,16,61]] rfl ⟨⟨⟨⟨⟨⟨⟨⟨tt_,rfl⟩,(Qv _ c3)⟩,rfl⟩,(Qv _ c4)⟩,rfl⟩,(QaO _ c5)⟩,rfl⟩,(congrArg (fun n=>Ob.var [.own 61 n,.lit (.slice none 0 0),.I k.1,.I m.1]) (by simp))⟩ ?_
 obtain⟨c6,a4,h⟩:=Qf h
 refine AK.loop (body:=(fun st=>Q8 L st.1 st.2.1 st.2.2)) (fun st σ=>σ=⟨[(0,.sl 1 (x.map Qp)),(2,.loc 2 0 0),(4,.loc 16 0 0),(5,.loc 5 0 0),(6,.I L.1),(7,.I st.1)],[(2,.var [.lit (.slice none 0 0),.lit (.slice none 0 0),.I 0,.I 0]),(5,.var [.own 61 st.2.2.length,.lit (.slice none 0 0),.I k.1,.I m.1]),(16,.var (Qg st.2.1)),(61,.arr 1 (st.2.2.map QG))]⟩) (fun q e σ=>e=.exit 0∧σ=⟨[(0,.sl 1 (x.map Qp)),(2,.loc 2 0 0),(4,.loc 16 0 0),(5,.loc 5 0 0)],[(2,.var [.lit (.slice none 0 0),.lit (.slice none 0 0),.I 0,.I 0]),(5,.var [.own 61 q.2.length,.lit (.slice none 0 0),.I k.1,.I m.1]),(16,.var (Qg q.1)),(61,.arr 1 (q.2.map QG))]⟩) a4 rfl ?_ ?_
 ·rintro ⟨s,a0,i⟩ o σ rfl h
  refine tg_ hC [.n 2] rfl ?_
  refine AK.meetX (fun σ=>σ=⟨[(0,.sl 1 (x.map Qp)),(2,.loc 2 0 0),(4,.loc 16 0 0),(5,.loc 5 0 0),(6,.I L.1),(7,.I s),(34,.b ((decide (s<L.1))&&(!a0.bad)))],[(2,.var [.lit (.slice none 0 0),.lit (.slice none 0 0),.I 0,.I 0]),(5,.var [.own 61 i.length,.lit (.slice none 0 0),.I k.1,.I m.1]),(16,.var (Qg a0)),(61,.arr 1 (i.map QG))]⟩) ?_ ?_
  ·refine tg_ hC [.n 5] rfl ?_
   rcases Qbt (decide (s<L.1))with y | y
   ·refine Qa hC [.S 28 (.b true),.n 7,.S 34 (.b ((decide (s<L.1))&&(!a0.bad))),.K [0,2,4,5,6,7,34] [2,5,16,61]] rfl ⟨(tc_ y),(congrArg V.b (Qgq y rfl))⟩ ?_
    exact AK.met rfl
   refine Qa hC [.S 28 (.b false),.n 7,.S 34 (.b ((decide (s<L.1))&&(!a0.bad))),.K [0,2,4,5,6,7,34] [2,5,16,61]] rfl ⟨(tc_ y),(congrArg V.b (Qgr y rfl))⟩ ?_
   exact AK.met rfl
  rintro σ rfl
  refine tg_ hC [.n 1] rfl ?_
  rcases QN h with⟨M,h⟩|⟨M,h⟩
  ·obtain⟨t,a5,h⟩:=Qf h
   refine Qa hC [.T,.n 7,.cm (.fn) [(607,16)] [(16,607)] [] [.d] [(607,.var (Qg t.2))] (.I t.1),.n 15,.adopt 9 53 2,.O 53 (.arr 2 (([]:List (Int×Int)).map Qy)),.S 9 (.own 53 ([]:List (Int×Int)).length),.K [0,2,4,5,6,7,8,9,10] [2,5,16,53,61]] rfl ⟨⟨⟨⟨tt_,M⟩,(QaO _ a5)⟩,rfl⟩,(congrArg (fun n=>V.own 53 n) (by simp))⟩ ?_
   obtain⟨c7,a6,h⟩:=Qf h
   refine AK.loop (body:=(fun st=>Q7 t st.1 st.2.1 st.2.2)) (fun st σ=>σ=⟨[(0,.sl 1 (x.map Qp)),(2,.loc 2 0 0),(4,.loc 16 0 0),(5,.loc 5 0 0),(6,.I L.1),(7,.I s),(8,.I t.1),(9,.own 53 st.2.2.length),(10,.I st.1)],[(2,.var [.lit (.slice none 0 0),.lit (.slice none 0 0),.I 0,.I 0]),(5,.var [.own 61 i.length,.lit (.slice none 0 0),.I k.1,.I m.1]),(16,.var (Qg st.2.1)),(53,.arr 2 (st.2.2.map Qy)),(61,.arr 1 (i.map QG))]⟩) (fun q e σ=>e=.exit 2∧σ=⟨[(0,.sl 1 (x.map Qp)),(2,.loc 2 0 0),(4,.loc 16 0 0),(5,.loc 5 0 0),(6,.I L.1),(7,.I s),(9,.own 53 q.2.length)],[(2,.var [.lit (.slice none 0 0),.lit (.slice none 0 0),.I 0,.I 0]),(5,.var [.own 61 i.length,.lit (.slice none 0 0),.I k.1,.I m.1]),(16,.var (Qg q.1)),(53,.arr 2 (q.2.map Qy)),(61,.arr 1 (i.map QG))]⟩) a6 rfl ?_ ?_
   ·rintro ⟨N,a1,a2⟩ o σ rfl h
    refine tg_ hC [.n 2] rfl ?_
    refine AK.meetX (fun σ=>σ=⟨[(0,.sl 1 (x.map Qp)),(2,.loc 2 0 0),(4,.loc 16 0 0),(5,.loc 5 0 0),(6,.I L.1),(7,.I s),(8,.I t.1),(9,.own 53 a2.length),(10,.I N),(48,.b ((decide (N<t.1))&&(!a1.bad)))],[(2,.var [.lit (.slice none 0 0),.lit (.slice none 0 0),.I 0,.I 0]),(5,.var [.own 61 i.length,.lit (.slice none 0 0),.I k.1,.I m.1]),(16,.var (Qg a1)),(53,.arr 2 (a2.map Qy)),(61,.arr 1 (i.map QG))]⟩) ?_ ?_
    ·refine tg_ hC [.n 5] rfl ?_
     rcases Qbt (decide (N<t.1))with z | z
     ·refine Qa hC [.S 42 (.b true),.n 7,.S 48 (.b ((decide (N<t.1))&&(!a1.bad))),.K [0,2,4,5,6,7,8,9,10,48] [2,5,16,53,61]] rfl ⟨(tc_ z),(congrArg V.b (Qgq z rfl))⟩ ?_
      exact AK.met rfl
     refine Qa hC [.S 42 (.b false),.n 7,.S 48 (.b ((decide (N<t.1))&&(!a1.bad))),.K [0,2,4,5,6,7,8,9,10,48] [2,5,16,53,61]] rfl ⟨(tc_ z),(congrArg V.b (Qgr z rfl))⟩ ?_
     exact AK.met rfl
    rintro σ rfl
    refine tg_ hC [.n 1] rfl ?_
    rcases QN h with⟨P,h⟩|⟨P,h⟩
    ·obtain⟨G,a7,h⟩:=Qf h
     obtain⟨H,a8,h⟩:=Qf h
     obtain⟨a9,h⟩:=QbS h
     refine Qa hC [.T,.n 7,.cm (.fn) [(607,16)] [(16,607)] [] [.d] [(607,.var (Qg G.2))] (.I G.1),.n 7,.cm (.fn) [(607,16)] [(16,607)] [] [.d] [(607,.var (Qg H.2))] (.I H.1),.v .no [] (.agg (Qy (G.1,H.1))),.v (.bd []) [] (.sl 2 (([(G.1,H.1)]:List (Int×Int)).map Qy)),.app ((a2++([(G.1,H.1)]:List (Int×Int))).map Qy) (a2++([(G.1,H.1)]:List (Int×Int))).length,.n 9,.K [0,2,4,5,6,7,8,9,10] [2,5,16,53,61]] rfl ⟨⟨⟨⟨⟨⟨tt_,P⟩,(Qv _ a7)⟩,(Qv _ a8)⟩,rfl⟩,rfl⟩,⟨Ql,Qcv a9 Ql,Qby,Qdy Ql⟩⟩ ?_
     cases h
     exact QaP rfl rfl
    refine Qa hC [.F,.n 2,.K [0,2,4,5,6,7,9] [2,5,16,53,61]] rfl ⟨tt_,P⟩ ?_
    cases h
    exact QaL rfl (an_ rfl rfl)
   obtain⟨c8,J⟩:=c7
   replace h:QeA i s c8 J=some o:=h
   rintro e σ ⟨rfl,rfl⟩
   obtain⟨b0,h⟩:=QbS h
   refine Qa hC [.n 6,.frz 53 (J.map Qy) [9,62] [],.v (.bd []) [] (.sl 1 (([J]:List QBg).map QG)),.app ((i++([J]:List QBg)).map QG) (i++([J]:List QBg)).length,.n 2,.O 5 (.var [.own 61 (i++([J]:List QBg)).length,.lit (.slice none 0 0),.I k.1,.I m.1]),.n 8,.K [0,2,4,5,6,7] [2,5,16,61]] rfl ⟨⟨⟨⟨tt_,⟨⟨tt_,(Qbc Ql)⟩,(Qbc Ql)⟩⟩,rfl⟩,⟨Ql,Qcv b0 Ql,Qby,Qdy Ql⟩⟩,rfl⟩ ?_
   cases h
   exact QaP rfl rfl
  refine Qa hC [.F,.n 2,.K [0,2,4,5] [2,5,16,61]] rfl ⟨tt_,M⟩ ?_
  cases h
  exact QaL rfl (an_ rfl rfl)
 obtain⟨c9,a⟩:=c6
 replace h:QeC x k m c9 a=some r:=h
 rintro e σ ⟨rfl,rfl⟩
 obtain⟨u,b2,h⟩:=Qf h
 refine Qa hC [.n 5,.cm (.fn) [(607,16)] [(16,607)] [] [.d] [(607,.var (Qg u.2))] (.I u.1),.n 10,.adoptO 5 1 110 11,.O 110 (.arr 11 (([]:List Qk).map Qd)),.O 5 (.var [.own 61 a.length,.own 110 ([]:List Qk).length,.I k.1,.I m.1]),.K [0,2,4,5,6,12] [2,5,16,61,110]] rfl ⟨⟨⟨tt_,(QaO _ b2)⟩,rfl⟩,(congrArg (fun n=>Ob.var [.own 61 a.length,.own 110 n,.I k.1,.I m.1]) (by simp))⟩ ?_
 obtain⟨d0,b3,h⟩:=Qf h
 refine AK.loop (body:=(fun st=>Q9 u st.1 st.2.1 st.2.2)) (fun st σ=>σ=⟨[(0,.sl 1 (x.map Qp)),(2,.loc 2 0 0),(4,.loc 16 0 0),(5,.loc 5 0 0),(6,.I u.1),(12,.I st.1)],[(2,.var [.lit (.slice none 0 0),.lit (.slice none 0 0),.I 0,.I 0]),(5,.var [.own 61 a.length,.own 110 st.2.2.length,.I k.1,.I m.1]),(16,.var (Qg st.2.1)),(61,.arr 1 (a.map QG)),(110,.arr 11 (st.2.2.map Qd))]⟩) (fun q e σ=>e=.exit 4∧σ=⟨[(0,.sl 1 (x.map Qp)),(2,.loc 2 0 0),(4,.loc 16 0 0),(5,.loc 5 0 0)],[(2,.var [.lit (.slice none 0 0),.lit (.slice none 0 0),.I 0,.I 0]),(5,.var [.own 61 a.length,.own 110 q.2.length,.I k.1,.I m.1]),(16,.var (Qg q.1)),(61,.arr 1 (a.map QG)),(110,.arr 11 (q.2.map Qd))]⟩) b3 rfl ?_ ?_
 ·rintro ⟨U,a3,W⟩ o σ rfl h
  refine tg_ hC [.n 2] rfl ?_
  refine AK.meetX (fun σ=>σ=⟨[(0,.sl 1 (x.map Qp)),(2,.loc 2 0 0),(4,.loc 16 0 0),(5,.loc 5 0 0),(6,.I u.1),(12,.I U),(77,.b ((decide (U<u.1))&&(!a3.bad)))],[(2,.var [.lit (.slice none 0 0),.lit (.slice none 0 0),.I 0,.I 0]),(5,.var [.own 61 a.length,.own 110 W.length,.I k.1,.I m.1]),(16,.var (Qg a3)),(61,.arr 1 (a.map QG)),(110,.arr 11 (W.map Qd))]⟩) ?_ ?_
  ·refine tg_ hC [.n 5] rfl ?_
   rcases Qbt (decide (U<u.1))with A | A
   ·refine Qa hC [.S 71 (.b true),.n 7,.S 77 (.b ((decide (U<u.1))&&(!a3.bad))),.K [0,2,4,5,6,12,77] [2,5,16,61,110]] rfl ⟨(tc_ A),(congrArg V.b (Qgq A rfl))⟩ ?_
    exact AK.met rfl
   refine Qa hC [.S 71 (.b false),.n 7,.S 77 (.b ((decide (U<u.1))&&(!a3.bad))),.K [0,2,4,5,6,12,77] [2,5,16,61,110]] rfl ⟨(tc_ A),(congrArg V.b (Qgr A rfl))⟩ ?_
   exact AK.met rfl
  rintro σ rfl
  refine tg_ hC [.n 1] rfl ?_
  rcases QN h with⟨X,h⟩|⟨X,h⟩
  ·obtain⟨c,b4,h⟩:=Qf h
   obtain⟨f,b5,h⟩:=Qf h
   obtain⟨g,b6,h⟩:=Qf h
   obtain⟨j,b7,h⟩:=Qf h
   obtain⟨l,b8,h⟩:=Qf h
   obtain⟨p,b9,h⟩:=Qf h
   obtain⟨w,c0,h⟩:=Qf h
   obtain⟨B,c1,h⟩:=Qf h
   obtain⟨c2,h⟩:=QbS h
   refine Qa hC [.T,.n 12,.cm (.fn) [(607,16)] [(16,607)] [] [.d] [(607,.var (Qg c.2))] (.I c.1),.n 2,.O 13 (.var [.I c.1,.I 0,.lit (.slice none 0 0),.lit (.slice none 0 0),.lit (.slice none 0 0),.I 0,.I 0,.I 0,.I 0,.I 0,.I 0]),.n 5,.cm (.fn) [(607,16)] [(16,607)] [] [.d] [(607,.var (Qg f.2))] (.agg (Q4 f.1)),.n 2,.O 13 (.var (Qd (Qk.mk c.1 f.1 (QO.mk 0 0 0 0 0) 0))),.n 5,.cm (.fn) [(607,16)] [(16,607)] [] [.d] [(607,.var (Qg g.2))] (.I g.1),.n 3,.O 13 (.var (Qd (Qk.mk c.1 f.1 (QO.mk g.1 0 0 0 0) 0))),.n 5,.cm (.fn) [(607,16)] [(16,607)] [] [.d] [(607,.var (Qg j.2))] (.I j.1),.n 3,.O 13 (.var (Qd (Qk.mk c.1 f.1 (QO.mk g.1 j.1 0 0 0) 0))),.n 5,.cm (.fn) [(607,16)] [(16,607)] [] [.d] [(607,.var (Qg l.2))] (.I l.1),.n 3,.O 13 (.var (Qd (Qk.mk c.1 f.1 (QO.mk g.1 j.1 l.1 0 0) 0))),.n 5,.cm (.fn) [(607,16)] [(16,607)] [] [.d] [(607,.var (Qg p.2))] (.I p.1),.n 3,.O 13 (.var (Qd (Qk.mk c.1 f.1 (QO.mk g.1 j.1 l.1 p.1 0) 0))),.n 5,.cm (.fn) [(607,16)] [(16,607)] [] [.d] [(607,.var (Qg w.2))] (.I w.1),.n 3,.O 13 (.var (Qd (Qk.mk c.1 f.1 (QO.mk g.1 j.1 l.1 p.1 w.1) 0))),.n 5,.cm (.fn) [(607,16)] [(16,607)] [] [.d] [(607,.var (Qg B.2))] (.I B.1),.n 2,.O 13 (.var (Qd (Qk.mk c.1 f.1 (QO.mk g.1 j.1 l.1 p.1 w.1) B.1))),.n 5,.v .no [] (.agg (Qd (Qk.mk c.1 f.1 (QO.mk g.1 j.1 l.1 p.1 w.1) B.1))),.v (.bd []) [] (.sl 11 (([(Qk.mk c.1 f.1 (QO.mk g.1 j.1 l.1 p.1 w.1) B.1)]:List Qk).map Qd)),.app ((W++([(Qk.mk c.1 f.1 (QO.mk g.1 j.1 l.1 p.1 w.1) B.1)]:List Qk)).map Qd) (W++([(Qk.mk c.1 f.1 (QO.mk g.1 j.1 l.1 p.1 w.1) B.1)]:List Qk)).length,.n 2,.O 5 (.var [.own 61 a.length,.own 110 (W++([(Qk.mk c.1 f.1 (QO.mk g.1 j.1 l.1 p.1 w.1) B.1)]:List Qk)).length,.I k.1,.I m.1]),.n 8,.K [0,2,4,5,6,12] [2,5,16,61,110]] rfl ⟨⟨⟨⟨⟨⟨⟨⟨⟨⟨⟨⟨⟨⟨⟨⟨⟨⟨⟨⟨⟨tt_,X⟩,(Qv _ b4)⟩,rfl⟩,(QcF _ b5)⟩,rfl⟩,(Qv _ b6)⟩,rfl⟩,(Qv _ b7)⟩,rfl⟩,(Qv _ b8)⟩,rfl⟩,(Qv _ b9)⟩,rfl⟩,(Qv _ c0)⟩,rfl⟩,(Qv _ c1)⟩,rfl⟩,rfl⟩,rfl⟩,⟨Ql,Qcv c2 Ql,Qby,Qdy Ql⟩⟩,rfl⟩ ?_
   cases h
   exact QaP rfl rfl
  refine Qa hC [.F,.n 2,.K [0,2,4,5] [2,5,16,61,110]] rfl ⟨tt_,X⟩ ?_
  cases h
  exact QaL rfl (an_ rfl rfl)
 obtain⟨D,Y⟩:=d0
 replace h:QeB x a k m D Y=some r:=h
 rintro e σ ⟨rfl,rfl⟩
 refine tg_ hC [.n 4] rfl ?_
 refine AK.meetX (fun σ=>σ=⟨[(2,.loc 2 0 0),(5,.loc 5 0 0),(127,.b (D.bad||(D.at_ != (x.length:Int))))],[(2,.var [.lit (.slice none 0 0),.lit (.slice none 0 0),.I 0,.I 0]),(5,.var [.own 61 a.length,.own 110 Y.length,.I k.1,.I m.1]),(61,.arr 1 (a.map QG)),(110,.arr 11 (Y.map Qd))]⟩) ?_ ?_
 ·refine tg_ hC [.n 6] rfl ?_
  rcases Qbt D.bad with E | E
  ·refine Qa hC [.S 119 (.b true),.n 9,.S 127 (.b (D.bad||(D.at_ != (x.length:Int)))),.K [2,5,127] [2,5,61,110]] rfl ⟨(tc_ E),(congrArg V.b (orT E rfl))⟩ ?_
   exact AK.met rfl
  refine Qa hC [.S 119 (.b false),.n 5,.o (.ln x.length),.n 3,.S 127 (.b (D.bad||(D.at_ != (x.length:Int)))),.K [2,5,127] [2,5,61,110]] rfl ⟨⟨(tc_ E),Ql⟩,(congrArg V.b (orF E rfl))⟩ ?_
  exact AK.met rfl
 rintro σ rfl
 refine tg_ hC [.n 1] rfl ?_
 refine bg_ h (fun Z h=>Qa hC [.T,.n 2,.v .no [some 1,some 11,none,none] (.agg (QP (QS.mk ([]:QMk) ([]:(List Qk)) 0 0))),.n 1,.O 2 (.var (QP (QS.mk ([]:QMk) ([]:(List Qk)) 0 0))),.n 5,.K [2,3] [2]] rfl ⟨⟨⟨tt_,Z⟩,rfl⟩,rfl⟩ ?_) fun Z h=>Qa hC [.F,.n 6,.O 2 (.var [.own 61 a.length,.own 110 Y.length,.I k.1,.I m.1]),.n 4,.frz 61 (a.map QG) [] [2],.frz 110 (Y.map Qd) [] [2],.K [2,3] [2]] rfl ⟨⟨⟨⟨tt_,Z⟩,rfl⟩,⟨tt_,⟨(Qbc Ql),⟨tt_,tt_⟩⟩⟩⟩,⟨tt_,⟨(Qbc Ql),tt_⟩⟩⟩ ?_
 ·cases h
  exact AK.done (ex_ [_,_] (an_ (an_ (ex_ _ (ex_ _ (an_ rfl (an_ rfl (Or.inl (an_ (Qo.ag rfl) (an_ (Qo.sz rfl) rfl))))))) (an_ rfl tt_)) (Qas tt_)))
 cases h
 exact AK.done (ex_ [_,_] (an_ (an_ (ex_ _ (ex_ _ (an_ rfl (an_ rfl (Or.inl (an_ (Qo.ag rfl) (an_ (Qo.sz rfl) rfl))))))) (an_ rfl tt_)) (Qas tt_)))
def QbM (b:(List Int)):Option (Int×QW):=
 (Qn (Qe.mk b 0 false)).bind fun c=>
 (Qn c.2).bind fun d=>
 (QaF d.2).bind fun e=>
 (Qn e.2).bind fun a=>
 bif (a.2.bad||(a.2.at_ != (b.length:Int)))then
 some (4,(QW.mk 0 0 (QZ.mk 0 ([]:(List Int)) ([]:(List Int)) ([]:(List Int))) 0))
 else
 some (0,(QW.mk c.1 d.1 e.1 a.1))
theorem QhS (i){r}(h:QbM i=some r):Qh prog 33 [.sl 1 (i.map Qp)] [] (Qt (.tup [.agg (QD r.2),.I r.1]) []):=by
 refine Qh.walk 36 func33 rfl rfl rfl fun C hC=>?_
 obtain⟨f,k,h⟩:=Qf h
 obtain⟨g,l,h⟩:=Qf h
 obtain⟨j,m,h⟩:=Qf h
 obtain⟨c,p,h⟩:=Qf h
 refine Qa hC [.n 9,.v .no [] (.agg (Qg (Qe.mk i 0 false))),.n 12,.cm (.fn) [(607,8)] [(8,607)] [] [.d] [(607,.var (Qg f.2))] (.I f.1),.n 2,.O 5 (.var [.I f.1,.I 0,.I 0,.lit (.slice none 0 0),.lit (.slice none 0 0),.lit (.slice none 0 0),.I 0]),.n 5,.cm (.fn) [(607,8)] [(8,607)] [] [.d] [(607,.var (Qg g.2))] (.I g.1),.n 2,.O 5 (.var [.I f.1,.I g.1,.I 0,.lit (.slice none 0 0),.lit (.slice none 0 0),.lit (.slice none 0 0),.I 0]),.n 5,.cm (.fn) [(607,8)] [(8,607)] [] [.d] [(607,.var (Qg j.2))] (.agg (Q4 j.1)),.n 2,.O 5 (.var (QD (QW.mk f.1 g.1 j.1 0))),.n 5,.cm (.fn) [(607,8)] [(8,607)] [] [.d] [(607,.var (Qg c.2))] (.I c.1),.n 2,.O 5 (.var (QD (QW.mk f.1 g.1 j.1 c.1))),.n 4] rfl ⟨⟨⟨⟨⟨⟨⟨⟨⟨tt_,rfl⟩,(Qv _ k)⟩,rfl⟩,(Qv _ l)⟩,rfl⟩,(QcF _ m)⟩,rfl⟩,(Qv _ p)⟩,rfl⟩ ?_
 refine AK.meetX (fun σ=>σ=⟨[(2,.loc 2 0 0),(5,.loc 5 0 0),(33,.b (c.2.bad||(c.2.at_ != (i.length:Int))))],[(2,.var [.I 0,.I 0,.I 0,.lit (.slice none 0 0),.lit (.slice none 0 0),.lit (.slice none 0 0),.I 0]),(5,.var (QD (QW.mk f.1 g.1 j.1 c.1)))]⟩) ?_ ?_
 ·refine tg_ hC [.n 6] rfl ?_
  rcases Qbt c.2.bad with a | a
  ·refine Qa hC [.S 25 (.b true),.n 9,.S 33 (.b (c.2.bad||(c.2.at_ != (i.length:Int)))),.K [2,5,33] [2,5]] rfl ⟨(tc_ a),(congrArg V.b (orT a rfl))⟩ ?_
   exact AK.met rfl
  refine Qa hC [.S 25 (.b false),.n 5,.o (.ln i.length),.n 3,.S 33 (.b (c.2.bad||(c.2.at_ != (i.length:Int)))),.K [2,5,33] [2,5]] rfl ⟨⟨(tc_ a),Ql⟩,(congrArg V.b (orF a rfl))⟩ ?_
  exact AK.met rfl
 rintro σ rfl
 refine tg_ hC [.n 1] rfl ?_
 refine bg_ h (fun e h=>Qa hC [.T,.n 2,.v .no [none,none,none,some 1,some 1,some 1,none] (.agg (QD (QW.mk 0 0 (QZ.mk 0 ([]:(List Int)) ([]:(List Int)) ([]:(List Int))) 0))),.n 1,.O 2 (.var (QD (QW.mk 0 0 (QZ.mk 0 ([]:(List Int)) ([]:(List Int)) ([]:(List Int))) 0))),.n 5,.K [2,3] [2]] rfl ⟨⟨⟨tt_,e⟩,rfl⟩,rfl⟩ ?_) fun e h=>Qa hC [.F,.n 4,.v .no [] (.agg (QD (QW.mk f.1 g.1 j.1 c.1))),.n 1,.O 2 (.var (QD (QW.mk f.1 g.1 j.1 c.1))),.n 4,.K [2,3] [2]] rfl ⟨⟨⟨tt_,e⟩,rfl⟩,rfl⟩ ?_
 ·cases h
  exact AK.done (ex_ [_,_] (an_ (an_ (ex_ _ (ex_ _ (an_ rfl (an_ rfl (Or.inl (an_ (Qo.ag rfl) (an_ (Qo.sz rfl) rfl))))))) (an_ rfl tt_)) (Qas tt_)))
 cases h
 exact AK.done (ex_ [_,_] (an_ (an_ (ex_ _ (ex_ _ (an_ rfl (an_ rfl (Or.inl (an_ (Qo.ag rfl) (an_ (Qo.sz rfl) rfl))))))) (an_ rfl tt_)) (Qas tt_)))
def Qfh (a:QW)(b:QW):Option Bool:=
 bif (a.Do==b.Do)then
 bif (a.Id==b.Id)then
 bif (a.Num==b.Num)then
 (QdU a.Mode b.Mode).bind fun c=>
 some c
 else
 some false
 else
 some false
 else
 some false
def Qcg (a:Bool):Option Bool:=
 some a
def Qdc (a:QW)(b:QW):Option Bool:=
 (Qfh a b).bind (fun c=>Qcg c)
theorem QiB (g i){r}(h:Qdc g i=some r):Qh prog 34 [.agg (QD g),.agg (QD i)] [] (Qt (.b r) []):=by
 refine Qh.walk 31 func34 rfl rfl rfl fun C hC=>?_
 refine tg_ hC [.n 8] rfl ?_
 obtain⟨j,k,h⟩:=Qf h
 replace h:Qcg j=some r:=h
 refine AK.meetX (fun σ=>σ=⟨[(4,.b j)],[]⟩) ?_ ?_
 ·replace h:=k
  refine tg_ hC [.n 7] rfl ?_
  refine bg_ h (fun a h=>Qa hC [.S 10 (.b true),.n 7] rfl (tc_ a) ?_) fun a h=>Qa hC [.S 10 (.b false),.n 22,.K [4] []] rfl (tc_ a) ?_
  ·refine bg_ h (fun e h=>Qa hC [.S 17 (.b true),.n 7] rfl (tc_ e) ?_) fun e h=>Qa hC [.S 17 (.b false),.n 15,.K [4] []] rfl (tc_ e) ?_
   ·rcases QN h with⟨f,h⟩|⟨f,h⟩
    ·obtain⟨m,l,h⟩:=Qf h
     refine Qa hC [.S 24 (.b true),.n 1,.v .no [] (.agg (Q4 g.Mode)),.n 1,.v .no [] (.agg (Q4 i.Mode)),.o (.c false [.d,.d] (.b m)),.n 3,.K [4] []] rfl ⟨⟨⟨(tc_ f),rfl⟩,rfl⟩,(Qhd _ _ l)⟩ ?_
     cases h
     exact AK.met rfl
    refine Qa hC [.S 24 (.b false),.n 8,.K [4] []] rfl (tc_ f) ?_
    cases h
    exact AK.met rfl
   cases h
   exact AK.met rfl
  cases h
  exact AK.met rfl
 rintro σ rfl
 replace h:Qcg j=some r:=h
 refine tg_ hC [.n 2] rfl ?_
 cases h
 exact d1_ rfl rfl tt_
def QeD (g:Bool)(c:(Int×QS))(d:(Int×QS))(e:(Int×QW))(f:(Int×QW)):Option Bool:=
 bif g then
 (QdV c.2 d.2).bind fun a=>
 bif a then
 bif (c.1==d.1)then
 (Qdc e.2 f.2).bind fun b=>
 bif b then
 some (e.1==f.1)
 else
 some false
 else
 some false
 else
 some false
 else
 some false
def QcU (a:Bool):Option Bool:=
 some a
def QbN (a:(List Int)):Option Bool:=
 (QfS).bind fun c=>
 bif (decide (3000<(a.length:Int)))then
 some c
 else
 (Qa7 a).bind fun d=>
 (QbL a).bind fun e=>
 (QaQ a).bind fun f=>
 (QbM a).bind fun g=>
 (QeD c d e f g).bind (fun b=>QcU b)
theorem QhT (u){r}(h:QbN u=some r):Qh prog 5 [.sl 1 (u.map Qp)] [] (Qt (.b r) []):=by
 refine Qh.walk 58 func5 rfl rfl rfl fun C hC=>?_
 obtain⟨E,w,h⟩:=Qf h
 refine Qa hC [.n 7,.o (.c false [] (.b E)),.n 7,.o (.ln u.length),.n 3] rfl ⟨⟨tt_,(QjF  w)⟩,Ql⟩ ?_
 rcases QN h with⟨i,h⟩|⟨i,h⟩
 ·refine Qa hC [.T,.n 8] rfl ⟨tt_,i⟩ ?_
  cases h
  exact d1_ rfl rfl tt_
 obtain⟨p,x,h⟩:=Qf h
 obtain⟨q,y,h⟩:=Qf h
 obtain⟨s,z,h⟩:=Qf h
 obtain⟨t,A,h⟩:=Qf h
 refine Qa hC [.F,.n 5,.o (.c false [.d] (.tup [.agg (QP p.2),.I p.1])),.n 5,.O 4 (.var (QP p.2)),.n 6,.o (.c false [.d] (.tup [.agg (QP q.2),.I q.1])),.n 5,.O 6 (.var (QP q.2)),.n 6,.o (.c false [.d] (.tup [.agg (QD s.2),.I s.1])),.n 5,.O 8 (.var (QD s.2)),.n 6,.o (.c false [.d] (.tup [.agg (QD t.2),.I t.1])),.n 5,.O 10 (.var (QD t.2)),.n 4] rfl ⟨⟨⟨⟨⟨⟨⟨⟨⟨tt_,i⟩,(Qew _ x)⟩,rfl⟩,(QhR _ y)⟩,rfl⟩,(QcQ _ z)⟩,rfl⟩,(QhS _ A)⟩,rfl⟩ ?_
 obtain⟨j,k,h⟩:=Qf h
 replace h:QcU j=some r:=h
 refine AK.meetX (fun σ=>σ=⟨[(2,.b j)],[]⟩) ?_ ?_
 ·replace h:=k
  refine tg_ hC [.n 3] rfl ?_
  rcases QN h with⟨a,h⟩|⟨a,h⟩
  ·obtain⟨B,l,h⟩:=Qf h
   refine Qa hC [.S 38 (.b true),.v .no [] (.agg (QP p.2)),.v .no [] (.agg (QP q.2)),.o (.c false [.d,.d] (.b B)),.n 2] rfl ⟨⟨⟨(tc_ a),rfl⟩,rfl⟩,(Qj9 _ _ l)⟩ ?_
   refine bg_ h (fun e h=>Qa hC [.S 43 (.b true),.n 5] rfl (tc_ e) ?_) fun e h=>Qa hC [.S 43 (.b false),.n 16,.K [2] []] rfl (tc_ e) ?_
   ·rcases QN h with⟨f,h⟩|⟨f,h⟩
    ·obtain⟨D,m,h⟩:=Qf h
     refine Qa hC [.S 48 (.b true),.v .no [] (.agg (QD s.2)),.v .no [] (.agg (QD t.2)),.o (.c false [.d,.d] (.b D)),.n 2] rfl ⟨⟨⟨(tc_ f),rfl⟩,rfl⟩,(QiB _ _ m)⟩ ?_
     refine bg_ h (fun g h=>Qa hC [.S 53 (.b true),.n 6,.K [2] []] rfl (tc_ g) ?_) fun g h=>Qa hC [.S 53 (.b false),.n 6,.K [2] []] rfl (tc_ g) ?_
     ·cases h
      exact AK.met rfl
     cases h
     exact AK.met rfl
    refine Qa hC [.S 48 (.b false),.n 11,.K [2] []] rfl (tc_ f) ?_
    cases h
    exact AK.met rfl
   cases h
   exact AK.met rfl
  refine Qa hC [.S 38 (.b false),.n 21,.K [2] []] rfl (tc_ a) ?_
  cases h
  exact AK.met rfl
 rintro σ rfl
 replace h:QcU j=some r:=h
 refine tg_ hC [.n 2] rfl ?_
 cases h
 exact d1_ rfl rfl tt_

end Go.Proofs
