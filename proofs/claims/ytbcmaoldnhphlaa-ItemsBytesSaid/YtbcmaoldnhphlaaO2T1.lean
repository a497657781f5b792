/- What functions of the program do, as functions over plain data, and the walks that show it: printed by a program. -/
import Derived.Test.YtbcmaoldnhphlaaO2V3
import Derived.Test.YtbcmaoldnhphlaaProg
set_option linter.unusedVariables false
set_option linter.unusedSimpArgs false
set_option linter.unusedSectionVars false
set_option linter.deprecated false
set_option maxRecDepth 100000
set_option maxHeartbeats 4000000
noncomputable section
namespace Go.Proofs
open Go Go.RowKit Go.Vm Go.Proofs.Try
structure Qab where
 Task:Int
 Vars:(List Int)
 Ins:(List Int)
 Outs:(List Int)
structure Qam where
 Most:Int
 Enough:Int
 Open:Int
 Done:Int
 Failed:Int
structure Qk where
 Id:Int
 Mode:Qab
 Batch:Qam
 Until:Int
structure QS where
 M:(List (List (Int×Int)))
 Items:(List Qk)
 Next:Int
 Now:Int
structure Qap where
 Do:Int
 Id:Int
 Mode:Qab
 Num:Int
structure Qe where
 b:(List Int)
 bad:Bool
structure Qg where
 id:Int
 at_:Int
 place:Int
structure QmH where
 b:(List Int)
 at_:Int
 bad:Bool
def Qq (x:Int):List V:=[.i .i64 x]
def QB (x:(Int×Int)):List V:=[.i .i64 x.1,.i .i64 x.2]
def QG (x:(List (Int×Int))):List V:=[.sl 2 (x.map QB)]
def QkN (x:(List (List (Int×Int)))):List V:=[.sl 1 (x.map QG)]
def Qm9 (x:(List Int)):List V:=[.sl 1 (x.map Qq)]
def Qaa (x:Qab):List V:=[.i .i64 x.Task,.sl 1 (x.Vars.map Qq),.sl 1 (x.Ins.map Qq),.sl 1 (x.Outs.map Qq)]
def Qaf (x:Qam):List V:=[.i .i64 x.Most,.i .i64 x.Enough,.i .i64 x.Open,.i .i64 x.Done,.i .i64 x.Failed]
def Qd (x:Qk):List V:=[.i .i64 x.Id,.i .i64 x.Mode.Task,.sl 1 (x.Mode.Vars.map Qq),.sl 1 (x.Mode.Ins.map Qq),.sl 1 (x.Mode.Outs.map Qq),.i .i64 x.Batch.Most,.i .i64 x.Batch.Enough,.i .i64 x.Batch.Open,.i .i64 x.Batch.Done,.i .i64 x.Batch.Failed,.i .i64 x.Until]
def Qj8 (x:(List Qk)):List V:=[.sl 11 (x.map Qd)]
def Qs (x:QS):List V:=[.sl 1 (x.M.map QG),.sl 11 (x.Items.map Qd),.i .i64 x.Next,.i .i64 x.Now]
def QF (x:Qap):List V:=[.i .i64 x.Do,.i .i64 x.Id,.i .i64 x.Mode.Task,.sl 1 (x.Mode.Vars.map Qq),.sl 1 (x.Mode.Ins.map Qq),.sl 1 (x.Mode.Outs.map Qq),.i .i64 x.Num]
def Qi (x:Int):List V:=[.i .u8 x]
def Qb (x:Qe):List V:=[.sl 1 (x.b.map Qi),.b x.bad]
def Qh (x:Qg):List V:=[.i .i64 x.id,.i .i64 x.at_,.i .i64 x.place]
theorem QnZ (a0 a1 a2 a3 a4 b0 b1 b2 b3 b4:Int):EqT Try.prog 27 [.int .i64 a0,.int .i64 a1,.int .i64 a2,.int .i64 a3,.int .i64 a4] [.int .i64 b0,.int .i64 b1,.int .i64 b2,.int .i64 b3,.int .i64 b4] ((a0==b0)&&((a1==b1)&&((a2==b2)&&((a3==b3)&&(a4==b4))))):=by
 refine⟨by kernel_rfl,fun w=>?_⟩
 have u3:=Try.underlying3
 have g3:=Try.isAgg3
 have z3:=Try.sizeOf3
 have hS:Try.prog.underlying 27=some (.struct (Try.prog.fieldsOf 27)):=by kernel_rfl
 have hp:Try.prog.stoodInHeld 27=false:=by kernel_rfl
 show(Op.equalIn (9999+1) 27 (.agg #[.int .i64 a0,.int .i64 a1,.int .i64 a2,.int .i64 a3,.int .i64 a4]) (.agg #[.int .i64 b0,.int .i64 b1,.int .i64 b2,.int .i64 b3,.int .i64 b4])).run Try.prog w=_
 rw [run_equalIn_agg w 9999 27 _ _ hS hp]
 simp only [Program.fieldsOf,Try.underlying27]
 go_simp
 by_cases h0:a0=b0<;>by_cases h1:a1=b1<;>by_cases h2:a2=b2<;>by_cases h3:a3=b3<;>by_cases h4:a4=b4<;>simp [h0,h1,h2,h3,h4]
theorem Qn0 (a0 a1 b0 b1:Int):EqT Try.prog 64 [.int .i64 a0,.int .i64 a1] [.int .i64 b0,.int .i64 b1] ((a0==b0)&&(a1==b1)):=by
 refine⟨by kernel_rfl,fun w=>?_⟩
 have u3:=Try.underlying3
 have g3:=Try.isAgg3
 have z3:=Try.sizeOf3
 show(Op.equalIn (9999+1) 64 (.agg #[.int .i64 a0,.int .i64 a1]) (.agg #[.int .i64 b0,.int .i64 b1])).run Try.prog w=_
 rw [Op.equalIn]
 simp only [Sem.run_bind,run_underlying Try.underlying64,Result.andThen_ok]
 simp only [Std.Legacy.Range.forIn_eq_forIn_range',Std.Legacy.Range.size,Nat.sub_zero,Nat.add_sub_cancel,Nat.div_one,List.range'_succ,List.range'_zero,List.forIn_cons,List.forIn_nil]
 go_simp
 by_cases h0:a0=b0<;>by_cases h1:a1=b1<;>simp [h0,h1]
def Qna : Go.Shelf.Ren:=⟨fun | 22=>39 | 29=>80 | 30=>81 | n=>n,fun | 24=>22 | 9=>29 | n=>n,fun n=>n⟩
theorem QmI : Qjb Try.prog Qna "slices.Insert[[]baldric/api.Item,baldric/api.Item]" "slices.overlaps[baldric/api.Item]" 29 11 136 (.agg #[.int .i64 0,.int .i64 0,.slice none 0 0,.slice none 0 0,.slice none 0 0,.int .i64 0,.int .i64 0,.int .i64 0,.int .i64 0,.int .i64 0,.int .i64 0]) where
 mixed:=by kernel_rfl
 f22:=Try.func39.trans (congrArg some (by kernel_rfl))
 f29:=Try.func80.trans (congrArg some (by kernel_rfl))
 nm:=by kernel_rfl
 nx:=by kernel_rfl
 fd:=by kernel_rfl
 t0:=Try.underlying0
 t3:=Try.underlying3
 t4:=Try.underlying4
 t24:=Try.underlying22
 zE:=Try.sizeOf29
 iE:=by kernel_rfl
 zc:=by kernel_rfl
 z0:=by decide
 small:=by decide
theorem QaE : Qja Try.prog 129 .u64=true:=by kernel_rfl
theorem QlD : Qja Try.prog 3 .i64=true:=by kernel_rfl
theorem QaP : Qja Try.prog 5 .u8=true:=by kernel_rfl
theorem QlE : Qef Try.prog 3 (V.i .i64) (Value.int .i64):=Qef.int (by kernel_rfl)
theorem QmJ : (Qcb Try.prog 120 "Pop" = some (127,true)∧QjD Try.prog 120=true)∨(Qcb Try.prog 120 "Pop" = some (127,false)∧Qgs Try.prog 120=true):=.inl ⟨by kernel_rfl,by kernel_rfl⟩
theorem QlV : (Qcb Try.prog 120 "Push" = some (128,true)∧QjD Try.prog 120=true)∨(Qcb Try.prog 120 "Push" = some (128,false)∧Qgs Try.prog 120=true):=.inl ⟨by kernel_rfl,by kernel_rfl⟩
theorem mixed : Try.prog.follows .mixedOrders=true:=by kernel_rfl
theorem QlF : Qhs Try.prog 111=some (3,116):=by kernel_rfl
theorem Qn1 : Qhs Try.prog 74=some (3,4):=by kernel_rfl
theorem Qj9 : Qcb Try.prog 120 "Len" = some (124,false)∧Qg4 Try.prog 120 113=true∧QbI Try.prog 113=some false:=⟨by kernel_rfl,by kernel_rfl,by kernel_rfl⟩
theorem Qhw : Qcb Try.prog 120 "Less" = some (125,false)∧Qg4 Try.prog 120 113=true∧QbI Try.prog 113=some false:=⟨by kernel_rfl,by kernel_rfl,by kernel_rfl⟩
theorem Qhx : Qcb Try.prog 120 "Swap" = some (126,false)∧Qg4 Try.prog 120 113=true∧QbI Try.prog 113=some false:=⟨by kernel_rfl,by kernel_rfl,by kernel_rfl⟩
theorem QoV : Try.prog.underlying 23=some (.slice 3):=by kernel_rfl
theorem Qdp : Try.prog.underlying 47=some (.slice 5):=by kernel_rfl
theorem QoB : Try.prog.underlying 116=some (.pointer 118):=by kernel_rfl
theorem QoC : QeN Try.prog 116 (.lit (.pointer none)):=QeN.one (v:=.pointer none) (by kernel_rfl)
theorem Qpg : QeN Try.prog 4 (V.b false):=QeN.one (v:=.bool false) (by kernel_rfl)
theorem Qph : Qak Try.prog 3=some [.i .i64 0]:=by kernel_rfl
theorem Qpi : Qak Try.prog 5=some [.i .u8 0]:=by kernel_rfl
theorem QoW : Qak Try.prog 25=some [.i .i64 0,.lit (.slice none 0 0),.lit (.slice none 0 0),.lit (.slice none 0 0)]:=by kernel_rfl
theorem QoX : Qak Try.prog 27=some [.i .i64 0,.i .i64 0,.i .i64 0,.i .i64 0,.i .i64 0]:=by kernel_rfl
theorem QoY : Qak Try.prog 29=some [.i .i64 0,.i .i64 0,.lit (.slice none 0 0),.lit (.slice none 0 0),.lit (.slice none 0 0),.i .i64 0,.i .i64 0,.i .i64 0,.i .i64 0,.i .i64 0,.i .i64 0]:=by kernel_rfl
theorem QoZ : Qak Try.prog 43=some [.lit (.slice none 0 0),.lit (.slice none 0 0),.i .i64 0,.i .i64 0]:=by kernel_rfl
theorem Qo0 : Qak Try.prog 45=some [.i .i64 0,.i .i64 0,.i .i64 0,.lit (.slice none 0 0),.lit (.slice none 0 0),.lit (.slice none 0 0),.i .i64 0]:=by kernel_rfl
theorem Qo1 : Qak Try.prog 64=some [.i .i64 0,.i .i64 0]:=by kernel_rfl
theorem Qo2 : Qak Try.prog 66=some [.lit (.slice none 0 0)]:=by kernel_rfl
theorem Qo3 : Qak Try.prog 93=some [.lit (.slice none 0 0),.b false]:=by kernel_rfl
theorem Qix : Qak Try.prog 95=some [.lit (.pointer none)]:=by kernel_rfl
theorem QoD : Qak Try.prog 103=some [.lit (.slice none 0 0),.i .i64 0,.b false]:=by kernel_rfl
theorem QoE : Qak Try.prog 115=some [.lit (.slice none 0 0),.lit (.map none)]:=by kernel_rfl
theorem QoF : Qak Try.prog 116=some [.lit (.pointer none)]:=by kernel_rfl
theorem QoG : Qak Try.prog 118=some [.i .i64 0,.i .i64 0,.i .i64 0]:=by kernel_rfl
theorem Qnb : Qak Try.prog 140=some [.lit (.pointer none)]:=by kernel_rfl
def tab : Tab:={ ag:=[(3,false),(4,false),(5,false),(22,false),(23,false),(25,true),(27,true),(29,true),(41,false),(43,true),(45,true),(47,false),(64,true),(66,false),(95,false),(111,false),(113,false),(116,false),(140,false)],sz:=[(3,1),(4,1),(22,1),(23,1),(25,4),(27,5),(29,11),(41,1),(43,4),(45,7),(47,1),(64,2),(113,1),(116,1)],fo:=[(25,[0,1,2,3]),(27,[0,1,2,3,4]),(29,[0,1,5,10]),(43,[0,1,2,3]),(45,[0,1,2,6]),(93,[0,1]),(103,[0,1,2]),(115,[0,1]),(118,[0,1,2])],sp:=[(25,[(0,1),(1,1),(2,1),(3,1)]),(27,[(0,1),(1,1),(2,1),(3,1),(4,1)]),(29,[(0,1),(1,4),(5,5),(10,1)]),(43,[(0,1),(1,1),(2,1),(3,1)]),(45,[(0,1),(1,1),(2,4),(6,1)]),(93,[(0,1),(1,1)]),(103,[(0,1),(1,1),(2,1)]),(115,[(0,1),(1,1)]),(118,[(0,1),(1,1),(2,1)])],es:=[(22,(29,11,136)),(23,(3,1,8)),(40,(66,1,24)),(41,(66,1,24)),(47,(5,1,1)),(65,(64,2,16)),(66,(64,2,16)),(113,(116,1,8)),(135,(95,1,8)),(141,(140,1,8))],ar:=[(64,(2,1))],zv:=[(3,[.i .i64 0]),(5,[.i .u8 0]),(25,[.i .i64 0,.lit (.slice none 0 0),.lit (.slice none 0 0),.lit (.slice none 0 0)]),(27,[.i .i64 0,.i .i64 0,.i .i64 0,.i .i64 0,.i .i64 0]),(29,[.i .i64 0,.i .i64 0,.lit (.slice none 0 0),.lit (.slice none 0 0),.lit (.slice none 0 0),.i .i64 0,.i .i64 0,.i .i64 0,.i .i64 0,.i .i64 0,.i .i64 0]),(43,[.lit (.slice none 0 0),.lit (.slice none 0 0),.i .i64 0,.i .i64 0]),(45,[.i .i64 0,.i .i64 0,.i .i64 0,.lit (.slice none 0 0),.lit (.slice none 0 0),.lit (.slice none 0 0),.i .i64 0]),(64,[.i .i64 0,.i .i64 0]),(66,[.lit (.slice none 0 0)]),(93,[.lit (.slice none 0 0),.b false]),(95,[.lit (.pointer none)]),(103,[.lit (.slice none 0 0),.i .i64 0,.b false]),(115,[.lit (.slice none 0 0),.lit (.map none)]),(116,[.lit (.pointer none)]),(118,[.i .i64 0,.i .i64 0,.i .i64 0]),(140,[.lit (.pointer none)])],sb:=[9],bo:=[4],cc:=[116,120],en:=[9,10,11,12,13,16,18,19,21,23,24,25,26,27,28,29,30,31,32,33,34,35,36,37,38,39,40,41,43,44,45,46,50,51,54,55,56,57,58,59,60,61,62,63,64,65,66,67,68,69,70,71,72,73,74,75,76,77,78,79,82,84,85,86,87,89,90,91,92,93,94,95,96,97,98,99,100,101,102,104,105,124,125,126,127,128] }
theorem Ql : Qa8 Try.prog tab:=Tab.ok (by kernel_rfl) (Qcw.2 ⟨Qph,Qcw.2 ⟨Qpi,Qcw.2 ⟨QoW,Qcw.2 ⟨QoX,Qcw.2 ⟨QoY,Qcw.2 ⟨QoZ,Qcw.2 ⟨Qo0,Qcw.2 ⟨Qo1,Qcw.2 ⟨Qo2,Qcw.2 ⟨Qo3,Qcw.2 ⟨Qix,Qcw.2 ⟨QoD,Qcw.2 ⟨QoE,Qcw.2 ⟨QoF,Qcw.2 ⟨QoG,Qcw.2 ⟨Qnb,fun _ h=>(by cases h)⟩⟩⟩⟩⟩⟩⟩⟩⟩⟩⟩⟩⟩⟩⟩⟩)
theorem Qa {C:Ctx}{Q:Exit→St→Prop}{n:Nat}{pt pt1:Pt}{ks ks1:List Fr}{σ σ1:St}{φ:Prop}(hC:Qcz Try.prog C n)(ds:List Dir)(e:Vm.go Try.prog C tab n ds pt ks σ True=some ⟨pt1,ks1,σ1,φ⟩)(hφ:φ)(h:AK Try.prog C Q pt1 ks1 σ1):AK Try.prog C Q pt ks σ:=AK.go Ql hC ds e hφ h
abbrev QBg := List (Int×Int)
abbrev QMk := List QBg
abbrev QLL := List (List Int)
abbrev QSB := List (ByteArray×Bool)
theorem tt_ : True:=trivial
theorem an_ {a b:Prop}(x:a)(y:b):a∧b:=⟨x,y⟩
theorem ex_ {α:Sort _}{p:α→Prop}(w:α)(h:p w):∃x,p x:=⟨w,h⟩
end Go.Proofs
namespace Go.Vm
open Go Go.RowKit
noncomputable abbrev Dir.K (a b:List Nat):Dir:=.keep a b
noncomputable abbrev Dir.S (a:Nat)(b:V):Dir:=.say a b
noncomputable abbrev Dir.O (a:Nat)(b:Ob):Dir:=.sayO a b
noncomputable abbrev Dir.T:Dir:=.br true
noncomputable abbrev Dir.F:Dir:=.br false
noncomputable abbrev Dw.N:Dw:=.a .no none false
noncomputable abbrev V.I (n:Int):V:=.i .i64 n
end Go.Vm
namespace Go.Proofs
open Go Go.RowKit Go.Vm Go.Proofs.Try
theorem bg_ {α:Type}{c:Bool}{x y:Option α}{r:α}{G:Prop}(h:(bif c then x else y)=some r)(f:c=true→x=some r→G)(g:c=false→y=some r→G):G:=by
 cases c
 ·exact g rfl h
 exact f rfl h
theorem cb_ {a b:Bool}(h:a=b):V.b a=V.b b:=congrArg V.b h
theorem tc_ {a b:Bool}(h:a=b):True∧V.b a=V.b b:=⟨trivial,congrArg V.b h⟩
def QoH : Exit→Bool
 | .normal=>true
 | .ret=>true
 | _=>false
theorem d1_ {C:Ctx}{t:Nat}{r:V}{outs:List (Nat×Ob)}{σ:St}{e:Exit}(he:QoH e=true)(h:Go.Vm.look σ.fr t=some r)(hs:Qcy σ.hp outs):AK Try.prog C (Qmg Try.prog [.tmp t] (Qp r outs)) (.x e) [] σ:=by
 cases e<;>first | exact AK.done ⟨[r],⟨h,trivial⟩,QaJ hs⟩|cases he
theorem d2_ {C:Ctx}{t u:Nat}{r s:V}{outs:List (Nat×Ob)}{σ:St}{e:Exit}(he:QoH e=true)(h:Go.Vm.look σ.fr t=some r)(k:Go.Vm.look σ.fr u=some s)(hs:Qcy σ.hp outs):AK Try.prog C (Qmg Try.prog [.tmp t,.tmp u] (Qp (.tup [r,s]) outs)) (.x e) [] σ:=by
 cases e<;>first | exact AK.done ⟨[r,s],⟨h,k,trivial⟩,QaJ hs⟩|cases he
theorem tg_ {C:Ctx}{Q:Exit→St→Prop}{n:Nat}{pt pt1:Pt}{ks ks1:List Fr}{σ σ1:St}(hC:Qcz Try.prog C n)(ds:List Dir)(e:Vm.go Try.prog C tab n ds pt ks σ True=some ⟨pt1,ks1,σ1,True⟩)(h:AK Try.prog C Q pt1 ks1 σ1):AK Try.prog C Q pt ks σ:=AK.go Ql hC ds e trivial h
theorem Qb5 {c:Bool}{β:Type}{f:Unit→Option β}{r:β}(h:(chk c).bind f=some r):c=true∧f ()=some r:=by
 obtain⟨_,k,h⟩:=Qc h
 exact⟨Qop k,h⟩
def QeQ (b:Int)(a:Int):Option Qk:=
 some (Qk.mk b (Qab.mk 0 ([]:(List Int)) ([0]:List Int) ([0]:List Int)) (Qam.mk 2 1 1 0 0) a)
theorem QeR (b a){r}(h:QeQ b a=some r):Qf prog 36 [.I b,.I a] [] (Qp (.agg (Qd r)) []):=by
 refine Qf.walk 12 func36 rfl rfl rfl fun C hC=>?_
 refine Qa hC [.n 9,.v .no [] (.agg (Qaf (Qam.mk 2 1 1 0 0))),.v (.bd []) [] (.sl 1 (([0]:List Int).map Qq)),.v (.bd []) [] (.sl 1 (([0]:List Int).map Qq)),.v .no [none,some 1,none,none] (.agg (Qaa (Qab.mk 0 ([]:(List Int)) ([0]:List Int) ([0]:List Int)))),.v .no [] (.agg (Qd (Qk.mk b (Qab.mk 0 ([]:(List Int)) ([0]:List Int) ([0]:List Int)) (Qam.mk 2 1 1 0 0) a))),.n 1,.O 4 (.var (Qd (Qk.mk b (Qab.mk 0 ([]:(List Int)) ([0]:List Int) ([0]:List Int)) (Qam.mk 2 1 1 0 0) a))),.n 3,.K [4] [4]] rfl ⟨⟨⟨⟨⟨⟨tt_,rfl⟩,rfl⟩,rfl⟩,rfl⟩,rfl⟩,rfl⟩ ?_
 cases h
 exact AK.done (ex_ [_] (an_ (an_ (ex_ _ (ex_ _ (an_ rfl (an_ rfl (Or.inl (an_ (Ql.ag rfl) (an_ (Ql.sz rfl) rfl))))))) tt_) (QaJ tt_)))
def QaU (a:(List Int)):Option (List Int):=
 (chk (decide (([]:List Int).length+a.length≤4294967296))).bind fun _=>
 some (([]:List Int)++a)
theorem QbP (a){r}(h:QaU a=some r):Qf prog 82 [.sl 1 (a.map Qq)] [] (Qp (.own 600 r.length) [(600,.arr 1 (r.map Qq))]):=by
 refine Qf.walk 8 func82 rfl rfl rfl fun C hC=>?_
 unfold QaU at h
 refine tg_ hC [.n 9] rfl ?_
 refine AK.eqNil rfl rfl rfl (Qo hC.n rfl) rfl rfl QoV ?_ ?_
 ·intro b
  replace h:some ([]:List Int)=some r:=by simpa [chk,List.map_eq_nil_iff.1 b] using h
  refine Qa hC [.n 10,.adopt 2 600 1,.O 600 (.arr 1 (([]:List Int).map Qq)),.S 2 (.own 600 ([]:List Int).length)] rfl ⟨⟨tt_,rfl⟩,rfl⟩ ?_
  cases h
  exact d1_ rfl rfl ⟨rfl,tt_⟩
 obtain⟨c,h⟩:=Qb5 h
 refine Qa hC [.n 8,.O 5 (.arr 1 (([]:List Int).map Qq)),.S 5 (.own 5 ([]:List Int).length),.n 1,.app ((([]:List Int)++a).map Qq) (([]:List Int)++a).length,.n 4,.K [2] [5],.ren 5 600] rfl ⟨⟨⟨tt_,rfl⟩,rfl⟩,⟨Qj,Qc6 c Qj,QbY,Qeg Qj⟩⟩ ?_
 cases h
 exact d1_ rfl rfl ⟨rfl,tt_⟩
def Qfo (a:Qk):Option Qk:=
 (QaU a.Mode.Vars).bind fun b=>
 (QaU a.Mode.Ins).bind fun c=>
 (QaU a.Mode.Outs).bind fun d=>
 some (Qk.mk a.Id (Qab.mk a.Mode.Task b c d) a.Batch a.Until)
theorem QfZ (b){r}(h:Qfo b=some r):Qf prog 40 [.agg (Qd b)] [] (Qp (.agg (Qd r)) []):=by
 refine Qf.walk 22 func40 rfl rfl rfl fun C hC=>?_
 obtain⟨c,g,h⟩:=Qc h
 obtain⟨e,i,h⟩:=Qc h
 obtain⟨f,j,h⟩:=Qc h
 refine tg_ hC [.n 7,.K [1,2] [1,2]] rfl ?_
 refine AK.draw2 Ql hC mixed [.N,.N,.N,.a (.cd false [.d] 1 (c.map Qq) c.length) none false,.N,.N,.N,.a (.cd false [.d] 1 (e.map Qq) e.length) none false,.N,.N,.N,.a (.cd false [.d] 1 (f.map Qq) f.length) none false,.N,.N,.m .s,.N,.N,.m .s,.N,.N,.m .s] [] [] [1,2] [1,2] rfl rfl rfl ⟨⟨⟨tt_,⟨(QbP _ g),Qj⟩⟩,⟨(QbP _ i),Qj⟩⟩,⟨(QbP _ j),Qj⟩⟩ rfl (by kernel_rfl) rfl rfl rfl ?_
 refine Qa hC [.O 1 (.var (Qd (Qk.mk b.Id (Qab.mk b.Mode.Task c e f) b.Batch b.Until))),.n 3,.v .no [] (.agg (Qd (Qk.mk b.Id (Qab.mk b.Mode.Task c e f) b.Batch b.Until))),.n 1,.O 2 (.var (Qd (Qk.mk b.Id (Qab.mk b.Mode.Task c e f) b.Batch b.Until))),.n 3,.K [2] [2]] rfl ⟨⟨⟨tt_,rfl⟩,rfl⟩,rfl⟩ ?_
 cases h
 exact AK.done (ex_ [_] (an_ (an_ (ex_ _ (ex_ _ (an_ rfl (an_ rfl (Or.inl (an_ (Ql.ag rfl) (an_ (Ql.sz rfl) rfl))))))) tt_) (QaJ tt_)))
def QeS (b:Int)(a:(List Qk)):Option ((Int×(List Qk))⊕(List Qk)):=
 some (.inl ((w64 (b+1)),a))
def Qg5 (f:(List Qk))(e:Int)(c:Int)(d:(List Qk)):Option ((Int×(List Qk))⊕(List Qk)):=
 bif (decide (c<(f.length:Int)))then
 (idx f c).bind fun a=>
 bif (a.Id != e)then
 (Qfo a).bind fun b=>
 (chk (decide (d.length+([b]:List Qk).length≤4294967296))).bind fun _=>
 QeS c (d++([b]:List Qk))
 else
 QeS c d
 else
 some (.inr d)
def Qg6 (a:(List Qk)):Option (List Qk):=
 some a
def Qgz (b:(List Qk))(a:Int):Option (List Qk):=
 (QU (fun st=>Qg5 b a st.1 st.2) (0,([]:List Qk))).bind (fun q=>Qg6 q)
theorem Qg7 (k a){r}(h:Qgz k a=some r):Qf prog 12 [.sl 11 (k.map Qd),.I a] [] (Qp (.own 600 r.length) [(600,.arr 11 (r.map Qd))]):=by
 refine Qf.walk 25 func12 rfl rfl rfl fun C hC=>?_
 refine Qa hC [.n 14,.o (.ln k.length),.n 4,.adopt 5 18 11,.O 18 (.arr 11 (([]:List Qk).map Qd)),.S 5 (.own 18 ([]:List Qk).length),.K [1,5,8,9,10] [18]] rfl ⟨⟨⟨tt_,Qj⟩,rfl⟩,(congrArg (fun n=>V.own 18 n) (by simp))⟩ ?_
 obtain⟨w,l,h⟩:=Qc h
 refine AK.loop (body:=(fun st=>Qg5 k a st.1 st.2)) (fun st σ=>σ=⟨[(1,.I a),(5,.own 18 st.2.length),(8,.sl 11 (k.map Qd)),(9,.I (k.length:Int)),(10,.I st.1)],[(18,.arr 11 (st.2.map Qd))]⟩) (fun q e σ=>e=.exit 0∧σ=⟨[(5,.own 18 q.length)],[(18,.arr 11 (q.map Qd))]⟩) l rfl ?_ ?_
 ·rintro ⟨t,u⟩ o σ rfl h
  refine tg_ hC [.n 6] rfl ?_
  refine bg_ h (fun b h=>Qa hC [.T,.n 2] rfl ⟨tt_,b⟩ ?_) fun b h=>Qa hC [.F,.n 2,.K [5] [18]] rfl ⟨tt_,b⟩ ?_
  ·refine AK.meet (fun σ=>∃g:(List Qk),σ=⟨[(1,.I a),(5,.own 18 g.length),(8,.sl 11 (k.map Qd)),(9,.I (k.length:Int)),(10,.I t)],[(18,.arr 11 (g.map Qd))]⟩∧QeS t g=some o) ?_ ?_
   ·obtain⟨i,m,h⟩:=Qc h
    refine Qa hC [.n 3,.o (.row (Qd i)),.v .no [] (.agg (Qd i)),.n 2,.O 7 (.var (Qd i)),.n 10] rfl ⟨⟨⟨tt_,(Qan m)⟩,rfl⟩,rfl⟩ ?_
    rcases QP h with⟨f,h⟩|⟨f,h⟩
    ·obtain⟨j,p,h⟩:=Qc h
     obtain⟨s,h⟩:=Qb5 h
     refine Qa hC [.T,.n 2,.v .no [] (.agg (Qd i)),.o (.c false [.d] (.agg (Qd j))),.v (.bd []) [] (.sl 11 (([j]:List Qk).map Qd)),.app ((u++([j]:List Qk)).map Qd) (u++([j]:List Qk)).length,.n 3,.K [1,5,8,9,10] [18]] rfl ⟨⟨⟨⟨⟨tt_,f⟩,rfl⟩,(QfZ _ p)⟩,rfl⟩,⟨Qj,Qc6 s Qj,QbY,Qeg Qj⟩⟩ ?_
     exact AK.met (ex_ _ (an_ rfl h))
    refine Qa hC [.F,.n 2,.K [1,5,8,9,10] [18]] rfl ⟨tt_,f⟩ ?_
    exact AK.met (ex_ _ (an_ rfl h))
   rintro σ ⟨g,rfl,h⟩
   refine tg_ hC [.n 4,.K [1,5,8,9,10] [18]] rfl ?_
   cases h
   exact QaF rfl rfl
  cases h
  exact QaC rfl (an_ rfl rfl)
 replace h:Qg6 w=some r:=h
 rintro e σ ⟨rfl,rfl⟩
 refine tg_ hC [.n 9,.K [4] [18],.ren 18 600] rfl ?_
 cases h
 exact d1_ rfl rfl ⟨rfl,tt_⟩
def QiK (a:Qk)(b:Qk):Option Bool:=
 some (decide (b.Id<a.Id))
theorem QjH (c a){r}(h:QiK c a=some r):Qf prog 38 [.agg (Qd c),.loc 607 0 0] [(607,.var (Qd a))] (Qp (.b r) [(607,.var (Qd a))]):=by
 refine Qf.walk 9 func38 rfl rfl rfl fun C hC=>?_
 refine tg_ hC [.n 17] rfl ?_
 cases h
 exact d1_ rfl rfl ⟨rfl,tt_⟩
def Qbc (c:(List Qk))(d:Qk)(a:Int):Option (Int⊕(Int⊕Unit)):=
 bif (decide (a<(c.length:Int)))then
 (idx c a).bind fun e=>
 (QiK e d).bind fun b=>
 bif b then
 some (.inr (.inl a))
 else
 some (.inl (w64 (a+1)))
 else
 some (.inr (.inr ()))
def Qbd (a:Int):Option Int:=
 some a
def Qbe : Option Int:=
 some (-1)
def Qbx (a:(List Qk))(b:Qk):Option Int:=
 (QU (fun st=>Qbc a b st) 0).bind (Sum.elim (fun q=>Qbd q) (fun q=>Qbe))
theorem Qc8 (c f){r}(h:Qbx c f=some r):Qf prog 37 [.own 607 c.length,.clo (.func 38) [] [.loc 608 0 0]] [(607,.arr 11 (c.map Qd)),(608,.var (Qd f))] (Qp (.I r) [(607,.arr 11 (c.map Qd)),(608,.var (Qd f))]):=by
 refine Qf.walk 19 func37 rfl rfl rfl fun C hC=>?_
 refine tg_ hC [.n 14,.K [0,1,7,8] [607,608]] rfl ?_
 obtain⟨l,i,h⟩:=Qc h
 refine AK.loop (body:=(fun st=>Qbc c f st)) (fun st σ=>σ=⟨[(0,.own 607 c.length),(1,.clo (.func 38) [] [.loc 608 0 0]),(7,.I (c.length:Int)),(8,.I st)],[(607,.arr 11 (c.map Qd)),(608,.var (Qd f))]⟩) (Sum.elim (fun q e σ=>e=.ret∧σ=⟨[(4,.I q)],[(607,.arr 11 (c.map Qd)),(608,.var (Qd f))]⟩) (fun q e σ=>e=.exit 0∧σ=⟨[],[(607,.arr 11 (c.map Qd)),(608,.var (Qd f))]⟩)) i rfl ?_ ?_
 ·rintro t o σ rfl h
  refine tg_ hC [.n 6] rfl ?_
  rcases QP h with⟨g,h⟩|⟨g,h⟩
  ·obtain⟨p,j,h⟩:=Qc h
   obtain⟨m,k,h⟩:=Qc h
   refine Qa hC [.T,.n 16,.v (.row (Qd p)) [] (.agg (Qd p)),.cm (.clo) [(607,608)] [(608,607)] [] [.d,.d] [(607,.var (Qd f))] (.b m),.n 2] rfl ⟨⟨⟨⟨⟨tt_,g⟩,(Qbk j rfl)⟩,(QX (Qbv j).2)⟩,rfl⟩,(QjH _ _ k)⟩ ?_
   refine bg_ h (fun a h=>Qa hC [.T,.n 9,.K [4] [607,608]] rfl ⟨tt_,a⟩ ?_) fun a h=>Qa hC [.F,.n 7,.K [0,1,7,8] [607,608]] rfl ⟨tt_,a⟩ ?_
   ·cases h
    exact QfU rfl (an_ rfl rfl)
   cases h
   exact QaF rfl rfl
  refine Qa hC [.F,.n 2,.K [] [607,608]] rfl ⟨tt_,g⟩ ?_
  cases h
  exact QaC rfl (an_ rfl rfl)
 rcases l with(s | _)
 ·replace h:Qbd s=some r:=h
  rintro e σ ⟨rfl,rfl⟩
  refine tg_ hC [.n 2] rfl ?_
  cases h
  exact d1_ rfl rfl ⟨rfl,rfl,tt_⟩
 replace h:Qbe=some r:=h
 rintro e σ ⟨rfl,rfl⟩
 refine tg_ hC [.n 8] rfl ?_
 cases h
 exact d1_ rfl rfl ⟨rfl,rfl,tt_⟩
def QaV (l:(List Qk))(i:Int)(m:(List Qk)):Option (List Qk):=match m with
 | [u]=>(chk (decide (0≤i)&&decide (i.toNat≤l.length)&&decide (l.length+1≤4294967296))).bind fun _=>some (l.take i.toNat++u::l.drop i.toNat)
 | _=>none
theorem QdB (l i m){r}(h:QaV l i m=some r):Qf prog 39 [.own 605 l.length,.I i,.own 606 m.length] [(605,.arr 11 (l.map Qd)),(606,.arr 11 (m.map Qd))] (Qp (.own 605 r.length) [(605,.arr 11 (r.map Qd))]):=by
 unfold QaV at h
 split at h
 ·rename_i u
  obtain⟨_,a,h⟩:=Qc h
  replace a:=Qop a
  simp only [Qw,Qed]at a
  cases h
  have:=QlC QmI (l.map Qd) (Qd u) i a.1.1 (by rw [Qf5];exact a.1.2) (by rw [Qf5];exact a.2)
  rw [←List.map_take,←List.map_drop,←Qcn,←List.map_append,Qf5,Qf5]at this
  exact this
 cases h
def Qfp (a:Qk)(b:(List Qk))(at_6:Int):Option (List Qk):=
 (Qfo a).bind fun c=>
 (QaV b at_6 ([c]:List Qk)).bind fun d=>
 some d
def QfE (d:(List Qk))(a:Qk):Option (List Qk):=
 (Qgz d a.Id).bind fun b=>
 (Qbx b a).bind fun c=>
 bif (decide (c<0))then
 Qfp a b (b.length:Int)
 else
 Qfp a b c
theorem Qfq (l b){r}(h:QfE l b=some r):Qf prog 11 [.sl 11 (l.map Qd),.agg (Qd b)] [] (Qp (.own 600 r.length) [(600,.arr 11 (r.map Qd))]):=by
 refine Qf.walk 24 func11 rfl rfl rfl fun C hC=>?_
 obtain⟨e,f,h⟩:=Qc h
 obtain⟨p,g,h⟩:=Qc h
 refine Qa hC [.n 11,.o (.co false [.d,.d] 11 (e.map Qd) e.length),.n 7,.cm (.fn) [(607,10),(608,3)] [(10,607),(3,608)] [] [.d,.d] [(607,.arr 11 (e.map Qd)),(608,.var (Qd b))] (.I p),.n 3] rfl ⟨⟨tt_,⟨(Qg7 _ _ f),Qj,.inl rfl⟩⟩,(Qc8 _ _ g)⟩ ?_
 refine AK.meet (fun σ=>∃at_6:Int,σ=⟨[(3,.loc 3 0 0),(5,.own 10 e.length),(6,.I at_6)],[(3,.var (Qd b)),(10,.arr 11 (e.map Qd))]⟩∧Qfp b e at_6=some r) ?_ ?_
 ·refine tg_ hC [.n 6] rfl ?_
  refine bg_ h (fun a h=>Qa hC [.T,.n 5,.K [3,5,6] [3,10]] rfl ⟨tt_,a⟩ ?_) fun a h=>Qa hC [.F,.n 1,.K [3,5,6] [3,10]] rfl ⟨tt_,a⟩ ?_
  ·exact AK.met (ex_ _ (an_ rfl h))
  exact AK.met (ex_ _ (an_ rfl h))
 rintro σ ⟨at_6,rfl,h⟩
 obtain⟨i,j,h⟩:=Qc h
 obtain⟨m,k,h⟩:=Qc h
 refine Qa hC [.n 4,.v .no [] (.agg (Qd b)),.o (.c false [.d] (.agg (Qd i))),.n 1,.O 22 (.arr 11 (([i]:List Qk).map Qd)),.S 22 (.own 22 ([i]:List Qk).length),.cm (.fn) [(605,10),(606,22)] [(10,605)] [10,22] [.d,.d,.d] [(605,.arr 11 (m.map Qd))] (.own 605 m.length),.n 4,.K [4] [10],.ren 10 600] rfl ⟨⟨⟨⟨⟨tt_,rfl⟩,(QfZ _ j)⟩,rfl⟩,rfl⟩,(QdB _ _ _ k)⟩ ?_
 cases h
 exact d1_ rfl rfl ⟨rfl,tt_⟩
def QhH (c:Int)(a:Int)(b:(List Int)):Option ((Int×(List Int))⊕(List Int)):=
 bif (decide (0≤a))then
 (chk (decide (0≤(w64 (8*a))))).bind fun _=>
 (chk (decide (b.length+([(IntKind.u8.wrap (Qr .u64 (IntKind.u64.wrap c) (w64 (8*a))))]:List Int).length≤4294967296))).bind fun _=>
 some (.inl ((w64 (a-1)),(b++([(IntKind.u8.wrap (Qr .u64 (IntKind.u64.wrap c) (w64 (8*a))))]:List Int))))
 else
 some (.inr b)
def QhI (b:Int)(a:(List Int)):Option ((Int×(List Int))⊕(List Int)):=
 some (.inl ((w64 (b+1)),a))
def QhJ (c:(List Int))(a:Int)(d:(List Int)):Option ((Int×(List Int))⊕(List Int)):=
 bif (decide (a<(c.length:Int)))then
 (idx c a).bind fun b=>
 (QU (fun st=>QhH b st.1 st.2) (7,d)).bind (fun q=>QhI a q)
 else
 some (.inr d)
def QhK (a:(List Int)):Option (List Int):=
 some a
def QfF (a:(List Int)):Option (List Int):=
 (QU (fun st=>QhJ a st.1 st.2) (0,([]:List Int))).bind (fun q=>QhK q)
theorem QhL (d){r}(h:QfF d=some r):Qf prog 56 [.lit (.slice none 0 0),.sl 1 (d.map Qq)] [] (Qp (.own 600 r.length) [(600,.arr 1 (r.map Qi))]):=by
 refine Qf.walk 29 func56 rfl rfl rfl fun C hC=>?_
 refine Qa hC [.n 9,.o (.ln d.length),.n 4,.adopt 0 18 1,.O 18 (.arr 1 (([]:List Int).map Qi)),.S 0 (.own 18 ([]:List Int).length),.K [0,8,9,10] [18]] rfl ⟨⟨⟨tt_,Qj⟩,rfl⟩,(congrArg (fun n=>V.own 18 n) (by simp))⟩ ?_
 obtain⟨x,j,h⟩:=Qc h
 refine AK.loop (body:=(fun st=>QhJ d st.1 st.2)) (fun st σ=>σ=⟨[(0,.own 18 st.2.length),(8,.sl 1 (d.map Qq)),(9,.I (d.length:Int)),(10,.I st.1)],[(18,.arr 1 (st.2.map Qi))]⟩) (fun q e σ=>e=.exit 0∧σ=⟨[(0,.own 18 q.length)],[(18,.arr 1 (q.map Qi))]⟩) j rfl ?_ ?_
 ·rintro ⟨t,y⟩ o σ rfl h
  refine tg_ hC [.n 6] rfl ?_
  rcases QP h with⟨f,h⟩|⟨f,h⟩
  ·obtain⟨a,k,h⟩:=Qc h
   refine Qa hC [.T,.n 6,.o (.row (Qq a)),.n 10,.K [0,6,7,8,9,10] [18]] rfl ⟨⟨tt_,f⟩,(Qan k)⟩ ?_
   obtain⟨u,l,h⟩:=Qc h
   refine AK.loop (body:=(fun st=>QhH a st.1 st.2)) (fun st σ=>σ=⟨[(0,.own 18 st.2.length),(6,.I a),(7,.I st.1),(8,.sl 1 (d.map Qq)),(9,.I (d.length:Int)),(10,.I t)],[(18,.arr 1 (st.2.map Qi))]⟩) (fun q e σ=>e=.exit 2∧σ=⟨[(0,.own 18 q.length),(8,.sl 1 (d.map Qq)),(9,.I (d.length:Int)),(10,.I t)],[(18,.arr 1 (q.map Qi))]⟩) l rfl ?_ ?_
   ·rintro ⟨b,m⟩ o σ rfl h
    refine tg_ hC [.n 7] rfl ?_
    rcases QP h with⟨c,h⟩|⟨c,h⟩
    ·obtain⟨p,h⟩:=Qb5 h
     obtain⟨s,h⟩:=Qb5 h
     refine Qa hC [.T,.n 7,.o (.any (.i .u64 (IntKind.u64.wrap a)) none),.n 2,.o (.any (.i .u64 (Qr .u64 (IntKind.u64.wrap a) (w64 (8*b)))) none),.o (.any (.i .u8 (IntKind.u8.wrap (Qr .u64 (IntKind.u64.wrap a) (w64 (8*b))))) none),.v (.bd []) [] (.sl 1 (([(IntKind.u8.wrap (Qr .u64 (IntKind.u64.wrap a) (w64 (8*b))))]:List Int).map Qi)),.app ((m++([(IntKind.u8.wrap (Qr .u64 (IntKind.u64.wrap a) (w64 (8*b))))]:List Int)).map Qi) (m++([(IntKind.u8.wrap (Qr .u64 (IntKind.u64.wrap a) (w64 (8*b))))]:List Int)).length,.n 9,.K [0,6,7,8,9,10] [18]] rfl ⟨⟨⟨⟨⟨⟨tt_,c⟩,(fun σ g w _=>Stp.convI rfl rfl (Qo hC.n rfl) (g _ _ rfl) QlD QaE)⟩,(fun σ g w _=>Stp.shr rfl rfl (Qo hC.n rfl) (g _ _ rfl) (g _ _ rfl) (QbC p))⟩,(fun σ g w _=>Stp.convI rfl rfl (Qo hC.n rfl) (g _ _ rfl) QaE QaP)⟩,rfl⟩,⟨Qj,Qc6 s Qj,QbY,Qeg Qj⟩⟩ ?_
     cases h
     exact QaF rfl rfl
    refine Qa hC [.F,.n 2,.K [0,8,9,10] [18]] rfl ⟨tt_,c⟩ ?_
    cases h
    exact QaC rfl (an_ rfl rfl)
   replace h:QhI t u=some o:=h
   rintro e σ ⟨rfl,rfl⟩
   refine tg_ hC [.n 7,.K [0,8,9,10] [18]] rfl ?_
   cases h
   exact QaF rfl rfl
  refine Qa hC [.F,.n 2,.K [0] [18]] rfl ⟨tt_,f⟩ ?_
  cases h
  exact QaC rfl (an_ rfl rfl)
 replace h:QhK x=some r:=h
 rintro e σ ⟨rfl,rfl⟩
 refine tg_ hC [.n 9,.K [4] [18],.ren 18 600] rfl ?_
 cases h
 exact d1_ rfl rfl ⟨rfl,tt_⟩
def Qaq (c:Int)(a:Int)(b:(List Int)):Option ((Int×(List Int))⊕(List Int)):=
 bif (decide (0≤a))then
 (chk (decide (0≤(w64 (8*a))))).bind fun _=>
 (chk (decide (b.length+([(IntKind.u8.wrap (Qr .u64 (IntKind.u64.wrap c) (w64 (8*a))))]:List Int).length≤4294967296))).bind fun _=>
 some (.inl ((w64 (a-1)),(b++([(IntKind.u8.wrap (Qr .u64 (IntKind.u64.wrap c) (w64 (8*a))))]:List Int))))
 else
 some (.inr b)
def Qf0 (b:Int)(a:(List Int)):Option ((Int×(List Int))⊕(List Int)):=
 some (.inl ((w64 (b+1)),a))
def Qba (c:(List Int))(a:Int)(d:(List Int)):Option ((Int×(List Int))⊕(List Int)):=
 bif (decide (a<(c.length:Int)))then
 (idx c a).bind fun b=>
 (QU (fun st=>Qaq b st.1 st.2) (7,d)).bind (fun q=>Qf0 a q)
 else
 some (.inr d)
def Qf1 (a:(List Int)):Option (List Int):=
 some a
def Qac (a:(List Int))(b:(List Int)):Option (List Int):=
 (QU (fun st=>Qba b st.1 st.2) (0,a)).bind (fun q=>Qf1 q)
theorem Qah (t f){r}(h:Qac t f=some r):Qf prog 56 [.own 605 t.length,.sl 1 (f.map Qq)] [(605,.arr 1 (t.map Qi))] (Qp (.own 605 r.length) [(605,.arr 1 (r.map Qi))]):=by
 refine Qf.walk 29 func56 rfl rfl rfl fun C hC=>?_
 refine Qa hC [.n 9,.o (.ln f.length),.n 4,.K [0,8,9,10] [605]] rfl ⟨tt_,Qj⟩ ?_
 obtain⟨y,j,h⟩:=Qc h
 refine AK.loop (body:=(fun st=>Qba f st.1 st.2)) (fun st σ=>σ=⟨[(0,.own 605 st.2.length),(8,.sl 1 (f.map Qq)),(9,.I (f.length:Int)),(10,.I st.1)],[(605,.arr 1 (st.2.map Qi))]⟩) (fun q e σ=>e=.exit 0∧σ=⟨[(0,.own 605 q.length)],[(605,.arr 1 (q.map Qi))]⟩) j rfl ?_ ?_
 ·rintro ⟨u,z⟩ o σ rfl h
  refine tg_ hC [.n 6] rfl ?_
  rcases QP h with⟨b,h⟩|⟨b,h⟩
  ·obtain⟨a,k,h⟩:=Qc h
   refine Qa hC [.T,.n 6,.o (.row (Qq a)),.n 10,.K [0,6,7,8,9,10] [605]] rfl ⟨⟨tt_,b⟩,(Qan k)⟩ ?_
   obtain⟨w,l,h⟩:=Qc h
   refine AK.loop (body:=(fun st=>Qaq a st.1 st.2)) (fun st σ=>σ=⟨[(0,.own 605 st.2.length),(6,.I a),(7,.I st.1),(8,.sl 1 (f.map Qq)),(9,.I (f.length:Int)),(10,.I u)],[(605,.arr 1 (st.2.map Qi))]⟩) (fun q e σ=>e=.exit 2∧σ=⟨[(0,.own 605 q.length),(8,.sl 1 (f.map Qq)),(9,.I (f.length:Int)),(10,.I u)],[(605,.arr 1 (q.map Qi))]⟩) l rfl ?_ ?_
   ·rintro ⟨c,m⟩ o σ rfl h
    refine tg_ hC [.n 7] rfl ?_
    rcases QP h with⟨d,h⟩|⟨d,h⟩
    ·obtain⟨p,h⟩:=Qb5 h
     obtain⟨s,h⟩:=Qb5 h
     refine Qa hC [.T,.n 7,.o (.any (.i .u64 (IntKind.u64.wrap a)) none),.n 2,.o (.any (.i .u64 (Qr .u64 (IntKind.u64.wrap a) (w64 (8*c)))) none),.o (.any (.i .u8 (IntKind.u8.wrap (Qr .u64 (IntKind.u64.wrap a) (w64 (8*c))))) none),.v (.bd []) [] (.sl 1 (([(IntKind.u8.wrap (Qr .u64 (IntKind.u64.wrap a) (w64 (8*c))))]:List Int).map Qi)),.app ((m++([(IntKind.u8.wrap (Qr .u64 (IntKind.u64.wrap a) (w64 (8*c))))]:List Int)).map Qi) (m++([(IntKind.u8.wrap (Qr .u64 (IntKind.u64.wrap a) (w64 (8*c))))]:List Int)).length,.n 9,.K [0,6,7,8,9,10] [605]] rfl ⟨⟨⟨⟨⟨⟨tt_,d⟩,(fun σ g x _=>Stp.convI rfl rfl (Qo hC.n rfl) (g _ _ rfl) QlD QaE)⟩,(fun σ g x _=>Stp.shr rfl rfl (Qo hC.n rfl) (g _ _ rfl) (g _ _ rfl) (QbC p))⟩,(fun σ g x _=>Stp.convI rfl rfl (Qo hC.n rfl) (g _ _ rfl) QaE QaP)⟩,rfl⟩,⟨Qj,Qc6 s Qj,QbY,Qeg Qj⟩⟩ ?_
     cases h
     exact QaF rfl rfl
    refine Qa hC [.F,.n 2,.K [0,8,9,10] [605]] rfl ⟨tt_,d⟩ ?_
    cases h
    exact QaC rfl (an_ rfl rfl)
   replace h:Qf0 u w=some o:=h
   rintro e σ ⟨rfl,rfl⟩
   refine tg_ hC [.n 7,.K [0,8,9,10] [605]] rfl ?_
   cases h
   exact QaF rfl rfl
  refine Qa hC [.F,.n 2,.K [0] [605]] rfl ⟨tt_,b⟩ ?_
  cases h
  exact QaC rfl (an_ rfl rfl)
 replace h:Qf1 y=some r:=h
 rintro e σ ⟨rfl,rfl⟩
 refine tg_ hC [.n 9] rfl ?_
 cases h
 exact d1_ rfl rfl ⟨rfl,tt_⟩
def QfG (a:(List Int))(b:Int):Option (List Int):=
 (Qac a ([b]:List Int)).bind fun c=>
 some c
theorem Qkv (a b){r}(h:QfG a b=some r):Qf prog 95 [.own 605 a.length,.I b] [(605,.arr 1 (a.map Qi))] (Qp (.own 605 r.length) [(605,.arr 1 (r.map Qi))]):=by
 refine Qf.walk 9 func95 rfl rfl rfl fun C hC=>?_
 obtain⟨e,c,h⟩:=Qc h
 refine Qa hC [.n 9,.v (.bd []) [] (.sl 1 (([b]:List Int).map Qq)),.cm (.fn) [(605,605)] [(605,605)] [605] [.d,.d] [(605,.arr 1 (e.map Qi))] (.own 605 e.length),.n 4] rfl ⟨⟨tt_,rfl⟩,(Qah _ _ c)⟩ ?_
 cases h
 exact d1_ rfl rfl ⟨rfl,tt_⟩
def QaY (d:(List Int))(a:Int)(e:(List Int)):Option ((Int×(List Int))⊕(List Int)):=
 bif (decide (a<(d.length:Int)))then
 (idx d a).bind fun b=>
 (QfG e b).bind fun c=>
 some (.inl ((w64 (a+1)),c))
 else
 some (.inr e)
def QfN (a:(List Int)):Option (List Int):=
 some a
def Qcq (b:(List Int))(a:(List Int)):Option (List Int):=
 (Qac b ([(a.length:Int)]:List Int)).bind fun c=>
 (QU (fun st=>QaY a st.1 st.2) (0,c)).bind (fun q=>QfN q)
theorem QdC (j b){r}(h:Qcq j b=some r):Qf prog 94 [.own 605 j.length,.sl 1 (b.map Qq),.clo (.func 95) [] []] [(605,.arr 1 (j.map Qi))] (Qp (.own 605 r.length) [(605,.arr 1 (r.map Qi))]):=by
 refine Qf.walk 26 func94 rfl rfl rfl fun C hC=>?_
 obtain⟨p,k,h⟩:=Qc h
 refine Qa hC [.n 9,.o (.ln b.length),.v (.bd []) [] (.sl 1 (([(b.length:Int)]:List Int).map Qq)),.cm (.fn) [(605,605)] [(605,605)] [605] [.d,.d] [(605,.arr 1 (p.map Qi))] (.own 605 p.length),.n 7,.o (.ln b.length),.n 4,.K [0,2,14,15,16] [605]] rfl ⟨⟨⟨⟨tt_,Qj⟩,rfl⟩,(Qah _ _ k)⟩,Qj⟩ ?_
 obtain⟨l,c,h⟩:=Qc h
 refine AK.loop (body:=(fun st=>QaY b st.1 st.2)) (fun st σ=>σ=⟨[(0,.own 605 st.2.length),(2,.clo (.func 95) [] []),(14,.sl 1 (b.map Qq)),(15,.I (b.length:Int)),(16,.I st.1)],[(605,.arr 1 (st.2.map Qi))]⟩) (fun q e σ=>e=.exit 0∧σ=⟨[(0,.own 605 q.length)],[(605,.arr 1 (q.map Qi))]⟩) c rfl ?_ ?_
 ·rintro ⟨s,t⟩ o σ rfl h
  refine tg_ hC [.n 6] rfl ?_
  rcases QP h with⟨a,h⟩|⟨a,h⟩
  ·obtain⟨m,f,h⟩:=Qc h
   obtain⟨g,i,h⟩:=Qc h
   refine Qa hC [.T,.n 6,.o (.row (Qq m)),.n 8,.cm (.clo) [(605,605)] [(605,605)] [605] [.d,.d] [(605,.arr 1 (g.map Qi))] (.own 605 g.length),.n 8,.K [0,2,14,15,16] [605]] rfl ⟨⟨⟨tt_,a⟩,(Qan f)⟩,(Qkv _ _ i)⟩ ?_
   cases h
   exact QaF rfl rfl
  refine Qa hC [.F,.n 2,.K [0] [605]] rfl ⟨tt_,a⟩ ?_
  cases h
  exact QaC rfl (an_ rfl rfl)
 replace h:QfN l=some r:=h
 rintro e σ ⟨rfl,rfl⟩
 refine tg_ hC [.n 9] rfl ?_
 cases h
 exact d1_ rfl rfl ⟨rfl,tt_⟩
def QdD (b:(List Int))(a:Qab):Option (List Int):=
 (Qac b ([a.Task]:List Int)).bind fun c=>
 (Qcq c a.Vars).bind fun d=>
 (Qcq d a.Ins).bind fun e=>
 (Qcq e a.Outs).bind fun f=>
 some f
theorem Qg8 (b c){r}(h:QdD b c=some r):Qf prog 61 [.own 605 b.length,.agg (Qaa c)] [(605,.arr 1 (b.map Qi))] (Qp (.own 605 r.length) [(605,.arr 1 (r.map Qi))]):=by
 refine Qf.walk 19 func61 rfl rfl rfl fun C hC=>?_
 obtain⟨j,e,h⟩:=Qc h
 obtain⟨k,f,h⟩:=Qc h
 obtain⟨l,g,h⟩:=Qc h
 obtain⟨o,i,h⟩:=Qc h
 refine tg_ hC [.n 7,.K [0,3,4] [3,605]] rfl ?_
 refine AK.draw2 Ql hC mixed [.N,.N,.N,.a (.bd []) (some ([],.sl 1 (([c.Task]:List Int).map Qq))) false,.m (.cm (.fn) [(605,605)] [(605,605)] [605] [.d,.d] [(605,.arr 1 (j.map Qi))] (.own 605 j.length) []),.a .no none true,.a .no none true,.m (.cm (.fn) [(605,605)] [(605,605)] [605] [.d,.d,.d] [(605,.arr 1 (k.map Qi))] (.own 605 k.length) []),.a .no none true,.a .no none true,.m (.cm (.fn) [(605,605)] [(605,605)] [605] [.d,.d,.d] [(605,.arr 1 (l.map Qi))] (.own 605 l.length) []),.a .no none true,.a .no none true,.m (.cm (.fn) [(605,605)] [(605,605)] [605] [.d,.d,.d] [(605,.arr 1 (o.map Qi))] (.own 605 o.length) []),.m .s] [3,4] [3] [4] [605] rfl rfl rfl ⟨⟨⟨⟨⟨tt_,rfl⟩,⟨tt_,(Qah _ _ e)⟩⟩,⟨tt_,(QdC _ _ f)⟩⟩,⟨tt_,(QdC _ _ g)⟩⟩,⟨tt_,(QdC _ _ i)⟩⟩ rfl (by kernel_rfl) rfl rfl rfl ?_
 refine tg_ hC [.n 2] rfl ?_
 cases h
 exact d1_ rfl rfl ⟨rfl,tt_⟩
def Qby (a:Qap):Option (List Int):=
 (QfF ([a.Do,a.Id]:List Int)).bind fun b=>
 (QdD b a.Mode).bind fun c=>
 (Qac c ([a.Num]:List Int)).bind fun d=>
 some d
theorem QbD (b){r}(h:Qby b=some r):Qf prog 26 [.agg (QF b)] [] (Qp (.own 600 r.length) [(600,.arr 1 (r.map Qi))]):=by
 refine Qf.walk 16 func26 rfl rfl rfl fun C hC=>?_
 obtain⟨g,c,h⟩:=Qc h
 obtain⟨i,e,h⟩:=Qc h
 obtain⟨j,f,h⟩:=Qc h
 refine tg_ hC [.n 7,.K [1,2] [1]] rfl ?_
 refine AK.draw2 Ql hC mixed [.N,.N,.N,.N,.a (.bd []) (some ([],.sl 1 (([b.Do,b.Id]:List Int).map Qq))) false,.m (.cm (.fn) [] [(8,600)] [8] [.d,.d] [(600,.arr 1 (g.map Qi))] (.own 600 g.length) []),.a .no none true,.a .no (some ([],.agg (Qaa b.Mode))) true,.m (.cm (.fn) [(605,8)] [(8,605)] [8] [.d,.d] [(605,.arr 1 (i.map Qi))] (.own 605 i.length) []),.a .no none true,.a .no none true,.a (.bd []) (some ([],.sl 1 (([b.Num]:List Int).map Qq))) true,.m (.cm (.fn) [(605,8)] [(8,605)] [8] [.d,.d] [(605,.arr 1 (j.map Qi))] (.own 605 j.length) []),.m .s] [1,2] [1] [2] [8] rfl rfl rfl ⟨⟨⟨⟨⟨⟨tt_,rfl⟩,⟨tt_,(QhL _ c)⟩⟩,rfl⟩,⟨tt_,(Qg8 _ _ e)⟩⟩,rfl⟩,⟨tt_,(Qah _ _ f)⟩⟩ rfl (by kernel_rfl) rfl rfl rfl ?_
 refine tg_ hC [.n 2,.K [2] [8],.ren 8 600] rfl ?_
 cases h
 exact d1_ rfl rfl ⟨rfl,tt_⟩
def QhM (a:Qe):Option Qe:=
 bif a.bad then
 some (Qe.mk a.b true)
 else
 some (Qe.mk a.b (decide ((a.b.length:Int)<8)))
def Qeu (e:Qe)(c:Int)(a:Int):Option ((Int×Int)⊕Int):=
 bif (decide (a<(((e.b.drop 0).take (8-0)).length:Int)))then
 (idx ((e.b.drop 0).take (8-0)) a).bind fun d=>
 some (.inl ((orI .u64 (Qly .u64 c 8) (IntKind.u64.wrap d)),(w64 (a+1))))
 else
 some (.inr c)
def Qev (a:Qe)(c:Int):Option (Int×Qe):=
 (chk (decide (0≤8)&&decide (8≤a.b.length)&&decide (a.b.length≤a.b.length))).bind fun _=>
 some ((w64 c),(Qe.mk ((a.b.drop 8).take (a.b.length-8)) a.bad))
def QcC (a:Qe):Option (Int×Qe):=
 bif a.bad then
 some (0,a)
 else
 (chk (decide (0≤8)&&decide (0≤8)&&decide (8≤a.b.length))).bind fun _=>
 (QU (fun st=>Qeu a st.1 st.2) (0,0)).bind (fun q=>Qev a q)
def Qy (a:Qe):Option (Int×Qe):=
 (QhM a).bind (fun b=>QcC b)
theorem Qu (m){r}(h:Qy m=some r):Qf prog 98 [.loc 607 0 0] [(607,.var (Qb m))] (Qp (.I r.1) [(607,.var (Qb r.2))]):=by
 refine Qf.walk 51 func98 rfl rfl rfl fun C hC=>?_
 refine tg_ hC [.n 7] rfl ?_
 obtain⟨a,w,h⟩:=Qc h
 replace h:QcC a=some r:=h
 refine AK.meetX (fun σ=>σ=⟨[(0,.loc 607 0 0)],[(607,.var (Qb a))]⟩) ?_ ?_
 ·replace h:=w
  refine tg_ hC [.n 7] rfl ?_
  refine bg_ h (fun j h=>Qa hC [.S 11 (.b true),.n 10,.O 607 (.var (Qb (Qe.mk m.b true))),.n 1,.K [0] [607]] rfl ⟨(tc_ j),rfl⟩ ?_) fun j h=>Qa hC [.S 11 (.b false),.n 4,.o (.ln m.b.length),.n 5,.O 607 (.var (Qb (Qe.mk m.b (decide ((m.b.length:Int)<8))))),.n 1,.K [0] [607]] rfl ⟨⟨(tc_ j),Qj⟩,rfl⟩ ?_
  ·cases h
   exact AK.met rfl
  cases h
  exact AK.met rfl
 rintro σ rfl
 replace h:QcC a=some r:=h
 refine tg_ hC [.n 9] rfl ?_
 rcases QP h with⟨k,h⟩|⟨k,h⟩
 ·refine Qa hC [.T,.n 7] rfl ⟨tt_,k⟩ ?_
  cases h
  exact d1_ rfl rfl ⟨rfl,tt_⟩
 obtain⟨d,h⟩:=Qb5 h
 refine Qa hC [.F,.n 14,.o (.any (.sl 1 (((a.b.drop 0).take (8-0)).map Qi)) none),.o (.ln ((a.b.drop 0).take (8-0)).length),.n 4,.K [0,3,29,30,31] [607]] rfl ⟨⟨⟨tt_,k⟩,(fun σ c p _=>Stp.sliceD rfl rfl (Qo hC.n rfl) (c _ _ rfl) (Ql.es rfl) Bnd.no (Bnd.val (c _ _ rfl) (QbC (Qlp d)) rfl) (QbC (Qlq d)) (QbB (QbC (Qos d)) (Nat.le_of_eq Qj.symm)) QmD)⟩,Qj⟩ ?_
 obtain⟨s,t,h⟩:=Qc h
 refine AK.loop (body:=(fun st=>Qeu a st.1 st.2)) (fun st σ=>σ=⟨[(0,.loc 607 0 0),(3,.i .u64 st.1),(29,.sl 1 (((a.b.drop 0).take (8-0)).map Qi)),(30,.I (((a.b.drop 0).take (8-0)).length:Int)),(31,.I st.2)],[(607,.var (Qb a))]⟩) (fun q e σ=>e=.exit 0∧σ=⟨[(0,.loc 607 0 0),(3,.i .u64 q)],[(607,.var (Qb a))]⟩) t rfl ?_ ?_
 ·rintro ⟨u,x⟩ o σ rfl h
  refine tg_ hC [.n 6] rfl ?_
  rcases QP h with⟨f,h⟩|⟨f,h⟩
  ·obtain⟨l,v,h⟩:=Qc h
   refine Qa hC [.T,.n 6,.o (.row (Qi l)),.n 6,.o (.any (.i .u64 (Qly .u64 u 8)) none),.n 1,.o (.any (.i .u64 (IntKind.u64.wrap l)) none),.o (.any (.i .u64 (orI .u64 (Qly .u64 u 8) (IntKind.u64.wrap l))) none),.n 8,.K [0,3,29,30,31] [607]] rfl ⟨⟨⟨⟨⟨tt_,f⟩,(Qan v)⟩,(fun σ c p _=>Stp.shl rfl rfl (Qo hC.n rfl) (c _ _ rfl) (c _ _ rfl) (by decide))⟩,(fun σ c p _=>Stp.convI rfl rfl (Qo hC.n rfl) (c _ _ rfl) QaP QaE)⟩,(fun σ c p _=>Stp.orB rfl rfl (Qo hC.n rfl) (c _ _ rfl) (c _ _ rfl))⟩ ?_
   cases h
   exact QaF rfl rfl
  refine Qa hC [.F,.n 2,.K [0,3] [607]] rfl ⟨tt_,f⟩ ?_
  cases h
  exact QaC rfl (an_ rfl rfl)
 replace h:Qev a s=some r:=h
 rintro e σ ⟨rfl,rfl⟩
 obtain⟨g,h⟩:=Qb5 h
 refine Qa hC [.n 9,.o (.any (.sl 1 (((a.b.drop 8).take (a.b.length-8)).map Qi)) none),.n 3,.O 607 (.var (Qb (Qe.mk ((a.b.drop 8).take (a.b.length-8)) a.bad))),.n 5,.o (.any (.I (w64 s)) none),.n 4] rfl ⟨⟨⟨tt_,(fun σ c p _=>Stp.sliceD rfl rfl (Qo hC.n rfl) (c _ _ rfl) (Ql.es rfl) (Bnd.val (c _ _ rfl) (QbC (Qlp g)) rfl) (Bnd.none_ Qj) (QbC (Qlq g)) (Nat.le_of_eq Qj.symm) QmD)⟩,rfl⟩,(fun σ c p _=>Stp.convI rfl rfl (Qo hC.n rfl) (c _ _ rfl) QaE QlD)⟩ ?_
 cases h
 exact d1_ rfl rfl ⟨rfl,tt_⟩
def Qfe (c:Qe)(f:Int)(g:Int)(d:Int)(e:Int):Option (Qe×Qap):=
 (Qy c).bind fun b=>
 (Qy b.2).bind fun a=>
 some (a.2,(Qap.mk b.1 a.1 (Qab.mk d ([]:List Int) ([]:List Int) ([]:List Int)) e))
theorem Qhy (m p j c e){r}(h:Qfe m p j c e=some r):Qf prog 67 [.loc 607 0 0,.own 608 2] [(607,.var (Qb m)),(608,.var [.loc 609 0 0,.loc 609 0 1]),(609,.var [.I p,.I j,.I c,.lit (.slice none 0 0),.lit (.slice none 0 0),.lit (.slice none 0 0),.I e])] (Qp (.tup []) [(607,.var (Qb r.1)),(608,.var [.loc 609 0 0,.loc 609 0 1]),(609,.var (QF r.2))]):=by
 refine Qf.walk 17 func67 rfl rfl rfl fun C hC=>?_
 refine tg_ hC [.n 8] rfl ?_
 refine AK.loopN 3 (AK.rnd ?_)
 obtain⟨f,k,h⟩:=Qc h
 refine Qa hC [.n 2,.v .no [] (.b true),.n 10,.o (.any (.loc 608 0 0) none),.n 7,.cm (.fn) [(607,607)] [(607,607)] [] [.d] [(607,.var (Qb f.2))] (.I f.1),.n 2,.O 609 (.var [.I f.1,.I j,.I c,.lit (.slice none 0 0),.lit (.slice none 0 0),.lit (.slice none 0 0),.I e]),.n 4,.v .no [] (.I 1),.n 2] rfl ⟨⟨⟨⟨⟨tt_,rfl⟩,(fun σ g l _=>Stp.idxV rfl rfl (Qo hC.n rfl) (g _ _ rfl) (g _ _ rfl) (Ql.es rfl) (l _ _ rfl) (by decide))⟩,(Qu _ k)⟩,rfl⟩,rfl⟩ ?_
 refine AK.met (AK.rnd ?_)
 obtain⟨a,i,h⟩:=Qc h
 refine Qa hC [.n 2,.v .no [] (.b true),.n 10,.o (.any (.loc 608 0 1) none),.n 7,.cm (.fn) [(607,607)] [(607,607)] [] [.d] [(607,.var (Qb a.2))] (.I a.1),.n 2,.O 609 (.var [.I f.1,.I a.1,.I c,.lit (.slice none 0 0),.lit (.slice none 0 0),.lit (.slice none 0 0),.I e]),.n 4,.v .no [] (.I 2),.n 2] rfl ⟨⟨⟨⟨⟨tt_,rfl⟩,(fun σ g l _=>Stp.idxV rfl rfl (Qo hC.n rfl) (g _ _ rfl) (g _ _ rfl) (Ql.es rfl) (l _ _ rfl) (by decide))⟩,(Qu _ i)⟩,rfl⟩,rfl⟩ ?_
 refine AK.met (AK.rnd ?_)
 refine Qa hC [.n 2,.v .no [] (.b false),.n 8,.denilO 609 [none,none,none,some 1,some 1,some 1,none],.O 609 (.var (QF (Qap.mk f.1 a.1 (Qab.mk c ([]:List Int) ([]:List Int) ([]:List Int)) e))),.K [] [607,608,609]] rfl ⟨⟨tt_,rfl⟩,rfl⟩ ?_
 cases h
 refine AK.done ?_
 exact ex_ [] (an_ tt_ (QaJ ⟨rfl,rfl,rfl,tt_⟩))
def QdW (b:Qe)(c:Int):Option (Qe×Qab):=
 (Qy b).bind fun a=>
 some (a.2,(Qab.mk a.1 ([]:List Int) ([]:List Int) ([]:List Int)))
theorem Qgd (e f){r}(h:QdW e f=some r):Qf prog 67 [.loc 607 0 0,.own 608 1] [(607,.var (Qb e)),(608,.var [.loc 609 0 0]),(609,.var [.I f,.lit (.slice none 0 0),.lit (.slice none 0 0),.lit (.slice none 0 0)])] (Qp (.tup []) [(607,.var (Qb r.1)),(608,.var [.loc 609 0 0]),(609,.var (Qaa r.2))]):=by
 refine Qf.walk 17 func67 rfl rfl rfl fun C hC=>?_
 refine tg_ hC [.n 8] rfl ?_
 refine AK.loopN 2 (AK.rnd ?_)
 obtain⟨a,c,h⟩:=Qc h
 refine Qa hC [.n 2,.v .no [] (.b true),.n 10,.o (.any (.loc 608 0 0) none),.n 7,.cm (.fn) [(607,607)] [(607,607)] [] [.d] [(607,.var (Qb a.2))] (.I a.1),.n 2,.O 609 (.var [.I a.1,.lit (.slice none 0 0),.lit (.slice none 0 0),.lit (.slice none 0 0)]),.n 4,.v .no [] (.I 1),.n 2] rfl ⟨⟨⟨⟨⟨tt_,rfl⟩,(fun σ g i _=>Stp.idxV rfl rfl (Qo hC.n rfl) (g _ _ rfl) (g _ _ rfl) (Ql.es rfl) (i _ _ rfl) (by decide))⟩,(Qu _ c)⟩,rfl⟩,rfl⟩ ?_
 refine AK.met (AK.rnd ?_)
 refine Qa hC [.n 2,.v .no [] (.b false),.n 8,.denilO 609 [none,some 1,some 1,some 1],.O 609 (.var (Qaa (Qab.mk a.1 ([]:List Int) ([]:List Int) ([]:List Int)))),.K [] [607,608,609]] rfl ⟨⟨tt_,rfl⟩,rfl⟩ ?_
 cases h
 refine AK.done ?_
 exact ex_ [] (an_ tt_ (QaJ ⟨rfl,rfl,rfl,tt_⟩))
def QiL (a:(Int×Qe)):Option Qe:=
 bif a.2.bad then
 some (Qe.mk a.2.b true)
 else
 some (Qe.mk a.2.b (decide (a.1<0)))
def Qff (e:(Int×Qe))(d:Int)(a:Qe)(b:(List Int)):Option ((Int×Qe×(List Int))⊕((List Int)×Qe)):=
 bif ((decide (d<e.1))&&(!a.bad))then
 (Qy a).bind fun c=>
 (chk (decide (b.length+([c.1]:List Int).length≤4294967296))).bind fun _=>
 some (.inl ((w64 (d+1)),c.2,(b++([c.1]:List Int))))
 else
 some (.inr (b,a))
def Qfg (a:(List Int))(b:Qe):Option ((List Int)×Qe):=
 some (a,b)
def Qdf (a:(Int×Qe))(b:Qe):Option ((List Int)×Qe):=
 (QU (fun st=>Qff a st.1 st.2.1 st.2.2) (0,b,([]:List Int))).bind (fun q=>Qfg q.1 q.2)
def QcV (b:Qe):Option ((List Int)×Qe):=
 (Qy b).bind fun a=>
 (QiL a).bind (fun c=>Qdf a c)
theorem Qdg (A){r}(h:QcV A=some r):Qf prog 102 [.loc 607 0 0,.clo (.func 98) [] []] [(607,.var (Qb A))] (Qp (.own 600 r.1.length) [(600,.arr 1 (r.1.map Qq)),(607,.var (Qb r.2))]):=by
 refine Qf.walk 40 func102 rfl rfl rfl fun C hC=>?_
 obtain⟨c,t,h⟩:=Qc h
 refine Qa hC [.n 8,.cm (.fn) [(607,607)] [(607,607)] [] [.d] [(607,.var (Qb c.2))] (.I c.1),.n 4] rfl ⟨tt_,(Qu _ t)⟩ ?_
 obtain⟨u,w,h⟩:=Qc h
 replace h:Qdf c u=some r:=h
 refine AK.meetX (fun σ=>σ=⟨[(0,.loc 607 0 0),(1,.clo (.func 98) [] []),(5,.I c.1)],[(607,.var (Qb u))]⟩) ?_ ?_
 ·replace h:=w
  refine tg_ hC [.n 7] rfl ?_
  refine bg_ h (fun k h=>Qa hC [.S 15 (.b true),.n 6,.O 607 (.var (Qb (Qe.mk c.2.b true))),.n 1,.K [0,1,5] [607]] rfl ⟨(tc_ k),rfl⟩ ?_) fun k h=>Qa hC [.S 15 (.b false),.n 6,.O 607 (.var (Qb (Qe.mk c.2.b (decide (c.1<0))))),.n 1,.K [0,1,5] [607]] rfl ⟨(tc_ k),rfl⟩ ?_
  ·cases h
   exact AK.met rfl
  cases h
  exact AK.met rfl
 rintro σ rfl
 replace h:Qdf c u=some r:=h
 refine Qa hC [.n 13,.adopt 6 33 1,.O 33 (.arr 1 (([]:List Int).map Qq)),.S 6 (.own 33 ([]:List Int).length),.K [0,1,5,6,7] [33,607]] rfl ⟨⟨tt_,rfl⟩,(congrArg (fun n=>V.own 33 n) (by simp))⟩ ?_
 obtain⟨x,l,h⟩:=Qc h
 refine AK.loop (body:=(fun st=>Qff c st.1 st.2.1 st.2.2)) (fun st σ=>σ=⟨[(0,.loc 607 0 0),(1,.clo (.func 98) [] []),(5,.I c.1),(6,.own 33 st.2.2.length),(7,.I st.1)],[(33,.arr 1 (st.2.2.map Qq)),(607,.var (Qb st.2.1))]⟩) (fun q e σ=>e=.exit 0∧σ=⟨[(6,.own 33 q.1.length)],[(33,.arr 1 (q.1.map Qq)),(607,.var (Qb q.2))]⟩) l rfl ?_ ?_
 ·rintro ⟨m,i,j⟩ o σ rfl h
  refine tg_ hC [.n 2] rfl ?_
  refine AK.meetX (fun σ=>σ=⟨[(0,.loc 607 0 0),(1,.clo (.func 98) [] []),(5,.I c.1),(6,.own 33 j.length),(7,.I m),(30,.b ((decide (m<c.1))&&(!i.bad)))],[(33,.arr 1 (j.map Qq)),(607,.var (Qb i))]⟩) ?_ ?_
  ·refine tg_ hC [.n 5] rfl ?_
   rcases QbM (decide (m<c.1))with a | a
   ·refine Qa hC [.S 24 (.b true),.n 7,.S 30 (.b ((decide (m<c.1))&&(!i.bad))),.K [0,1,5,6,7,30] [33,607]] rfl ⟨(tc_ a),(congrArg V.b (Qid a rfl))⟩ ?_
    exact AK.met rfl
   refine Qa hC [.S 24 (.b false),.n 7,.S 30 (.b ((decide (m<c.1))&&(!i.bad))),.K [0,1,5,6,7,30] [33,607]] rfl ⟨(tc_ a),(congrArg V.b (Qie a rfl))⟩ ?_
   exact AK.met rfl
  rintro σ rfl
  refine tg_ hC [.n 1] rfl ?_
  rcases QP h with⟨f,h⟩|⟨f,h⟩
  ·obtain⟨g,p,h⟩:=Qc h
   obtain⟨s,h⟩:=Qb5 h
   refine Qa hC [.T,.n 8,.cm (.clo) [(607,607)] [(607,607)] [] [.d] [(607,.var (Qb g.2))] (.I g.1),.v (.bd []) [] (.sl 1 (([g.1]:List Int).map Qq)),.app ((j++([g.1]:List Int)).map Qq) (j++([g.1]:List Int)).length,.n 9,.K [0,1,5,6,7] [33,607]] rfl ⟨⟨⟨⟨tt_,f⟩,(Qu _ p)⟩,rfl⟩,⟨Qj,Qc6 s Qj,QbY,Qeg Qj⟩⟩ ?_
   cases h
   exact QaF rfl rfl
  refine Qa hC [.F,.n 2,.K [6] [33,607]] rfl ⟨tt_,f⟩ ?_
  cases h
  exact QaC rfl (an_ rfl rfl)
 obtain⟨y,z⟩:=x
 replace h:Qfg y z=some r:=h
 rintro e σ ⟨rfl,rfl⟩
 refine tg_ hC [.n 9,.K [4] [33,607],.ren 33 600] rfl ?_
 cases h
 exact d1_ rfl rfl ⟨rfl,rfl,tt_⟩
def Qeo (e:Qe):Option (Qab×Qe):=
 (QdW e 0).bind fun a=>
 (QcV a.1).bind fun b=>
 (QcV b.2).bind fun c=>
 (QcV c.2).bind fun d=>
 some ((Qab.mk a.2.Task b.1 c.1 d.1),d.2)
theorem Qfh (p){r}(h:Qeo p=some r):Qf prog 76 [.loc 607 0 0] [(607,.var (Qb p))] (Qp (.agg (Qaa r.1)) [(607,.var (Qb r.2))]):=by
 refine Qf.walk 25 func76 rfl rfl rfl fun C hC=>?_
 obtain⟨c,j,h⟩:=Qc h
 refine Qa hC [.n 14,.o (.any (.own 8 1) (some (.var [.loc 3 0 0]))),.cm (.fn) [(607,607),(608,8),(609,3)] [(607,607),(8,608),(3,609)] [] [.d,.d] [(607,.var (Qb c.1)),(608,.var [.loc 609 0 0]),(609,.var (Qaa c.2))] (.tup []),.n 8,.o (.any (.own 13 3) (some (.var [.loc 3 0 1,.loc 3 0 2,.loc 3 0 3]))),.n 5] rfl ⟨⟨⟨tt_,(fun σ a f hf=>Stp.buildAny rfl rfl (Qo hC.n rfl) (Ql.es rfl) Qix rfl (by decide) (by decide) (Qb3 a rfl) rfl rfl (hf rfl))⟩,(Qgd _ _ j)⟩,(fun σ a f hf=>Stp.buildAny rfl rfl (Qo hC.n rfl) (Ql.es rfl) Qnb rfl (by decide) (by decide) (Qb3 a rfl) rfl rfl (hf rfl))⟩ ?_
 refine AK.loopN 4 (AK.rnd ?_)
 obtain⟨e,k,h⟩:=Qc h
 refine Qa hC [.n 2,.v .no [] (.b true),.n 10,.o (.any (.loc 13 0 0) none),.n 7,.cm (.fn) [(607,607)] [(21,600),(607,607)] [] [.d,.d] [(600,.arr 1 (e.1.map Qq)),(607,.var (Qb e.2))] (.own 600 e.1.length),.n 2,.O 3 (.var [.I c.2.Task,.own 21 e.1.length,.sl 1 (c.2.Ins.map Qq),.sl 1 (c.2.Outs.map Qq)]),.n 4,.v .no [] (.I 1),.n 2] rfl ⟨⟨⟨⟨⟨tt_,rfl⟩,(fun σ a f _=>Stp.idxV rfl rfl (Qo hC.n rfl) (a _ _ rfl) (a _ _ rfl) (Ql.es rfl) (f _ _ rfl) (by decide))⟩,(Qdg _ k)⟩,rfl⟩,rfl⟩ ?_
 refine AK.met (AK.rnd ?_)
 obtain⟨g,l,h⟩:=Qc h
 refine Qa hC [.n 2,.v .no [] (.b true),.n 10,.o (.any (.loc 13 0 1) none),.n 7,.cm (.fn) [(607,607)] [(602,600),(607,607)] [] [.d,.d] [(600,.arr 1 (g.1.map Qq)),(607,.var (Qb g.2))] (.own 600 g.1.length),.n 2,.O 3 (.var [.I c.2.Task,.own 21 e.1.length,.own 602 g.1.length,.sl 1 (c.2.Outs.map Qq)]),.n 4,.v .no [] (.I 2),.n 2] rfl ⟨⟨⟨⟨⟨tt_,rfl⟩,(fun σ a f _=>Stp.idxV rfl rfl (Qo hC.n rfl) (a _ _ rfl) (a _ _ rfl) (Ql.es rfl) (f _ _ rfl) (by decide))⟩,(Qdg _ l)⟩,rfl⟩,rfl⟩ ?_
 refine AK.met (AK.rnd ?_)
 obtain⟨i,m,h⟩:=Qc h
 refine Qa hC [.n 2,.v .no [] (.b true),.n 10,.o (.any (.loc 13 0 2) none),.n 7,.cm (.fn) [(607,607)] [(603,600),(607,607)] [] [.d,.d] [(600,.arr 1 (i.1.map Qq)),(607,.var (Qb i.2))] (.own 600 i.1.length),.n 2,.O 3 (.var [.I c.2.Task,.own 21 e.1.length,.own 602 g.1.length,.own 603 i.1.length]),.n 4,.v .no [] (.I 3),.n 2] rfl ⟨⟨⟨⟨⟨tt_,rfl⟩,(fun σ a f _=>Stp.idxV rfl rfl (Qo hC.n rfl) (a _ _ rfl) (a _ _ rfl) (Ql.es rfl) (f _ _ rfl) (by decide))⟩,(Qdg _ m)⟩,rfl⟩,rfl⟩ ?_
 refine AK.met (AK.rnd ?_)
 refine Qa hC [.n 2,.v .no [] (.b false),.n 13,.O 2 (.var [.I c.2.Task,.own 21 e.1.length,.own 602 g.1.length,.own 603 i.1.length]),.n 3,.frz 21 (e.1.map Qq) [] [2],.frz 602 (g.1.map Qq) [] [2],.frz 603 (i.1.map Qq) [] [2],.K [2] [2,607]] rfl ⟨⟨⟨⟨⟨tt_,rfl⟩,rfl⟩,⟨tt_,⟨(Qb4 Qj),⟨tt_,⟨tt_,tt_⟩⟩⟩⟩⟩,⟨tt_,⟨(Qb4 Qj),⟨tt_,tt_⟩⟩⟩⟩,⟨tt_,⟨(Qb4 Qj),tt_⟩⟩⟩ ?_
 cases h
 exact AK.done (ex_ [_] (an_ (an_ (ex_ _ (ex_ _ (an_ rfl (an_ rfl (Or.inl (an_ (Ql.ag rfl) (an_ (Ql.sz rfl) rfl))))))) tt_) (QaJ ⟨rfl,tt_⟩)))
def QdX (c:Qe)(a:Qap):Option (Qe×Qap):=
 (Qy c).bind fun b=>
 some (b.2,(Qap.mk a.Do a.Id a.Mode b.1))
theorem Qge (f a){r}(h:QdX f a=some r):Qf prog 67 [.loc 607 0 0,.own 608 1] [(607,.var (Qb f)),(608,.var [.loc 609 0 6]),(609,.var (QF a))] (Qp (.tup []) [(607,.var (Qb r.1)),(608,.var [.loc 609 0 6]),(609,.var (QF r.2))]):=by
 refine Qf.walk 17 func67 rfl rfl rfl fun C hC=>?_
 refine tg_ hC [.n 8] rfl ?_
 refine AK.loopN 2 (AK.rnd ?_)
 obtain⟨c,e,h⟩:=Qc h
 refine Qa hC [.n 2,.v .no [] (.b true),.n 10,.o (.any (.loc 608 0 0) none),.n 7,.cm (.fn) [(607,607)] [(607,607)] [] [.d] [(607,.var (Qb c.2))] (.I c.1),.n 2,.O 609 (.var (QF (Qap.mk a.Do a.Id a.Mode c.1))),.n 4,.v .no [] (.I 1),.n 2] rfl ⟨⟨⟨⟨⟨tt_,rfl⟩,(fun σ g i _=>Stp.idxV rfl rfl (Qo hC.n rfl) (g _ _ rfl) (g _ _ rfl) (Ql.es rfl) (i _ _ rfl) (by decide))⟩,(Qu _ e)⟩,rfl⟩,rfl⟩ ?_
 refine AK.met (AK.rnd ?_)
 refine Qa hC [.n 2,.v .no [] (.b false),.n 8,.K [] [607,608,609]] rfl ⟨tt_,rfl⟩ ?_
 cases h
 refine AK.done ?_
 exact ex_ [] (an_ tt_ (QaJ ⟨rfl,rfl,rfl,tt_⟩))
def QdY (a:Qe)(c:Qap):Option (Int×Qap):=
 bif (a.bad||(decide (0<(a.b.length:Int))))then
 some (4,(Qap.mk 0 0 (Qab.mk 0 ([]:(List Int)) ([]:(List Int)) ([]:(List Int))) 0))
 else
 some (0,c)
theorem Qgf (a e){r}(h:QdY a e=some r):Qf prog 77 [.loc 607 0 0,.agg (QF e)] [(607,.var (Qb a))] (Qp (.tup [.agg (QF r.2),.I r.1]) [(607,.var (Qb a))]):=by
 refine Qf.walk 21 func77 rfl rfl rfl fun C hC=>?_
 refine tg_ hC [.n 9] rfl ?_
 refine AK.meetX (fun σ=>σ=⟨[(3,.loc 3 0 0),(4,.loc 4 0 0),(18,.b (a.bad||(decide (0<(a.b.length:Int)))))],[(3,.var (QF e)),(4,.var [.I 0,.I 0,.I 0,.lit (.slice none 0 0),.lit (.slice none 0 0),.lit (.slice none 0 0),.I 0]),(607,.var (Qb a))]⟩) ?_ ?_
 ·refine tg_ hC [.n 6] rfl ?_
  rcases QbM a.bad with c | c
  ·refine Qa hC [.S 11 (.b true),.n 8,.S 18 (.b (a.bad||(decide (0<(a.b.length:Int))))),.K [3,4,18] [3,4,607]] rfl ⟨(tc_ c),(congrArg V.b (orT c rfl))⟩ ?_
   exact AK.met rfl
  refine Qa hC [.S 11 (.b false),.n 4,.o (.ln a.b.length),.n 3,.S 18 (.b (a.bad||(decide (0<(a.b.length:Int))))),.K [3,4,18] [3,4,607]] rfl ⟨⟨(tc_ c),Qj⟩,(congrArg V.b (orF c rfl))⟩ ?_
  exact AK.met rfl
 rintro σ rfl
 refine tg_ hC [.n 1] rfl ?_
 refine bg_ h (fun d h=>Qa hC [.T,.n 7,.v .no [none,none,none,some 1,some 1,some 1,none] (.agg (QF (Qap.mk 0 0 (Qab.mk 0 ([]:(List Int)) ([]:(List Int)) ([]:(List Int))) 0))),.n 1,.O 4 (.var (QF (Qap.mk 0 0 (Qab.mk 0 ([]:(List Int)) ([]:(List Int)) ([]:(List Int))) 0))),.n 5,.K [4,5] [4,607]] rfl ⟨⟨⟨tt_,d⟩,rfl⟩,rfl⟩ ?_) fun d h=>Qa hC [.F,.n 4,.v .no [] (.agg (QF e)),.n 1,.O 4 (.var (QF e)),.n 4,.K [4,5] [4,607]] rfl ⟨⟨⟨tt_,d⟩,rfl⟩,rfl⟩ ?_
 ·cases h
  exact AK.done (ex_ [_,_] (an_ (an_ (ex_ _ (ex_ _ (an_ rfl (an_ rfl (Or.inl (an_ (Ql.ag rfl) (an_ (Ql.sz rfl) rfl))))))) (an_ rfl tt_)) (QaJ ⟨rfl,tt_⟩)))
 cases h
 exact AK.done (ex_ [_,_] (an_ (an_ (ex_ _ (ex_ _ (an_ rfl (an_ rfl (Or.inl (an_ (Ql.ag rfl) (an_ (Ql.sz rfl) rfl))))))) (an_ rfl tt_)) (QaJ ⟨rfl,tt_⟩)))
def QdE (e:(List Int)):Option (Int×Qap):=
 (Qfe (Qe.mk e false) 0 0 0 0).bind fun a=>
 (Qeo a.1).bind fun b=>
 (QdX b.2 (Qap.mk a.2.Do a.2.Id b.1 a.2.Num)).bind fun c=>
 (QdY c.1 c.2).bind fun d=>
 some (d.1,d.2)
theorem Qew (c){r}(h:QdE c=some r):Qf prog 32 [.sl 1 (c.map Qi)] [] (Qp (.tup [.agg (QF r.2),.I r.1]) []):=by
 refine Qf.walk 26 func32 rfl rfl rfl fun C hC=>?_
 obtain⟨a,e,h⟩:=Qc h
 obtain⟨f,g,h⟩:=Qc h
 obtain⟨b,i,h⟩:=Qc h
 obtain⟨j,k,h⟩:=Qc h
 refine Qa hC [.n 9,.v .no [] (.agg (Qb (Qe.mk c false))),.n 14,.o (.any (.own 12 2) (some (.var [.loc 5 0 0,.loc 5 0 1]))),.cm (.fn) [(607,8),(608,12),(609,5)] [(8,607),(12,608),(5,609)] [] [.d,.d] [(607,.var (Qb a.1)),(608,.var [.loc 609 0 0,.loc 609 0 1]),(609,.var (QF a.2))] (.tup []),.n 5,.cm (.fn) [(607,8)] [(8,607)] [] [.d] [(607,.var (Qb f.2))] (.agg (Qaa f.1)),.n 2,.O 5 (.var (QF (Qap.mk a.2.Do a.2.Id f.1 a.2.Num))),.n 6,.o (.any (.own 19 1) (some (.var [.loc 5 0 6]))),.cm (.fn) [(607,8),(608,19),(609,5)] [(8,607),(19,608),(5,609)] [] [.d,.d] [(607,.var (Qb b.1)),(608,.var [.loc 609 0 6]),(609,.var (QF b.2))] (.tup []),.n 5,.v .no [] (.agg (QF b.2)),.cm (.fn) [(607,8)] [(8,607)] [] [.d,.d] [(607,.var (Qb b.1))] (.tup [.agg (QF j.2),.I j.1]),.n 3,.O 2 (.var (QF j.2)),.n 4,.K [2,3] [2]] rfl ⟨⟨⟨⟨⟨⟨⟨⟨⟨⟨tt_,rfl⟩,(fun σ l m hf=>Stp.buildAny rfl rfl (Qo hC.n rfl) (Ql.es rfl) Qix rfl (by decide) (by decide) (Qb3 l rfl) rfl rfl (hf rfl))⟩,(Qhy _ _ _ _ _ e)⟩,(Qfh _ g)⟩,rfl⟩,(fun σ l m hf=>Stp.buildAny rfl rfl (Qo hC.n rfl) (Ql.es rfl) Qix rfl (by decide) (by decide) (Qb3 l rfl) rfl rfl (hf rfl))⟩,(Qge _ _ i)⟩,rfl⟩,(Qgf _ _ k)⟩,rfl⟩ ?_
 cases h
 exact AK.done (ex_ [_,_] (an_ (an_ (ex_ _ (ex_ _ (an_ rfl (an_ rfl (Or.inl (an_ (Ql.ag rfl) (an_ (Ql.sz rfl) rfl))))))) (an_ rfl tt_)) (QaJ tt_)))
def QfW (b:(List Int))(a:(Int×Int)):Option (List Int):=
 (Qac b ([a.1,a.2]:List Int)).bind fun c=>
 some c
theorem QjI (c a){r}(h:QfW c a=some r):Qf prog 92 [.own 605 c.length,.agg (QB a)] [(605,.arr 1 (c.map Qi))] (Qp (.own 605 r.length) [(605,.arr 1 (r.map Qi))]):=by
 refine Qf.walk 8 func92 rfl rfl rfl fun C hC=>?_
 obtain⟨f,e,h⟩:=Qc h
 refine Qa hC [.n 9,.x (fun σ=>(σ.kill 3).put 6 (.sl 1 (([a.1,a.2]:List Int).map Qq))),.cm (.fn) [(605,605)] [(605,605)] [605] [.d,.d] [(605,.arr 1 (f.map Qi))] (.own 605 f.length),.n 4] rfl ⟨⟨tt_,(Stp.sliceVar (b:=3) rfl rfl (Qo hC.n rfl) rfl rfl rfl (Ql.ar rfl) rfl rfl rfl rfl rfl)⟩,(Qah _ _ e)⟩ ?_
 cases h
 exact d1_ rfl rfl ⟨rfl,tt_⟩
def QaM (d:QBg)(a:Int)(e:(List Int)):Option ((Int×(List Int))⊕(List Int)):=
 bif (decide (a<(d.length:Int)))then
 (idx d a).bind fun b=>
 (QfW e b).bind fun c=>
 some (.inl ((w64 (a+1)),c))
 else
 some (.inr e)
def QeT (a:(List Int)):Option (List Int):=
 some a
def QdT (b:(List Int))(a:QBg):Option (List Int):=
 (Qac b ([(a.length:Int)]:List Int)).bind fun c=>
 (QU (fun st=>QaM a st.1 st.2) (0,c)).bind (fun q=>QeT q)
theorem Qiy (k c){r}(h:QdT k c=some r):Qf prog 91 [.own 605 k.length,.sl 2 (c.map QB),.clo (.func 92) [] []] [(605,.arr 1 (k.map Qi))] (Qp (.own 605 r.length) [(605,.arr 1 (r.map Qi))]):=by
 refine Qf.walk 26 func91 rfl rfl rfl fun C hC=>?_
 obtain⟨p,l,h⟩:=Qc h
 refine Qa hC [.n 9,.o (.ln c.length),.v (.bd []) [] (.sl 1 (([(c.length:Int)]:List Int).map Qq)),.cm (.fn) [(605,605)] [(605,605)] [605] [.d,.d] [(605,.arr 1 (p.map Qi))] (.own 605 p.length),.n 7,.o (.ln c.length),.n 4,.K [0,2,14,15,16] [605]] rfl ⟨⟨⟨⟨tt_,Qj⟩,rfl⟩,(Qah _ _ l)⟩,Qj⟩ ?_
 obtain⟨m,f,h⟩:=Qc h
 refine AK.loop (body:=(fun st=>QaM c st.1 st.2)) (fun st σ=>σ=⟨[(0,.own 605 st.2.length),(2,.clo (.func 92) [] []),(14,.sl 2 (c.map QB)),(15,.I (c.length:Int)),(16,.I st.1)],[(605,.arr 1 (st.2.map Qi))]⟩) (fun q e σ=>e=.exit 0∧σ=⟨[(0,.own 605 q.length)],[(605,.arr 1 (q.map Qi))]⟩) f rfl ?_ ?_
 ·rintro ⟨s,t⟩ o σ rfl h
  refine tg_ hC [.n 6] rfl ?_
  rcases QP h with⟨a,h⟩|⟨a,h⟩
  ·obtain⟨b,g,h⟩:=Qc h
   obtain⟨i,j,h⟩:=Qc h
   refine Qa hC [.T,.n 6,.o (.row (QB b)),.v .no [] (.agg (QB b)),.n 2,.O 8 (.var (QB b)),.n 5,.v .no [] (.agg (QB b)),.cm (.clo) [(605,605)] [(605,605)] [605] [.d,.d] [(605,.arr 1 (i.map Qi))] (.own 605 i.length),.n 8,.K [0,2,14,15,16] [605]] rfl ⟨⟨⟨⟨⟨⟨tt_,a⟩,(Qan g)⟩,rfl⟩,rfl⟩,rfl⟩,(QjI _ _ j)⟩ ?_
   cases h
   exact QaF rfl rfl
  refine Qa hC [.F,.n 2,.K [0] [605]] rfl ⟨tt_,a⟩ ?_
  cases h
  exact QaC rfl (an_ rfl rfl)
 replace h:QeT m=some r:=h
 rintro e σ ⟨rfl,rfl⟩
 refine tg_ hC [.n 9] rfl ?_
 cases h
 exact d1_ rfl rfl ⟨rfl,tt_⟩
def QfH (a:(List Int))(b:QBg):Option (List Int):=
 (QdT a b).bind fun c=>
 some c
theorem Qkw (a c){r}(h:QfH a c=some r):Qf prog 57 [.own 605 a.length,.sl 2 (c.map QB)] [(605,.arr 1 (a.map Qi))] (Qp (.own 605 r.length) [(605,.arr 1 (r.map Qi))]):=by
 refine Qf.walk 8 func57 rfl rfl rfl fun C hC=>?_
 obtain⟨e,b,h⟩:=Qc h
 refine Qa hC [.n 9,.cm (.fn) [(605,605)] [(605,605)] [605] [.d,.d,.d] [(605,.arr 1 (e.map Qi))] (.own 605 e.length),.n 4] rfl ⟨tt_,(Qiy _ _ b)⟩ ?_
 cases h
 exact d1_ rfl rfl ⟨rfl,tt_⟩
def QaA (d:QMk)(a:Int)(e:(List Int)):Option ((Int×(List Int))⊕(List Int)):=
 bif (decide (a<(d.length:Int)))then
 (idx d a).bind fun b=>
 (QfH e b).bind fun c=>
 some (.inl ((w64 (a+1)),c))
 else
 some (.inr e)
def QdZ (a:(List Int)):Option (List Int):=
 some a
def Qdh (b:(List Int))(a:QMk):Option (List Int):=
 (Qac b ([(a.length:Int)]:List Int)).bind fun c=>
 (QU (fun st=>QaA a st.1 st.2) (0,c)).bind (fun q=>QdZ q)
theorem Qhz (j b){r}(h:Qdh j b=some r):Qf prog 55 [.own 605 j.length,.sl 1 (b.map QG),.clo (.func 57) [] []] [(605,.arr 1 (j.map Qi))] (Qp (.own 605 r.length) [(605,.arr 1 (r.map Qi))]):=by
 refine Qf.walk 26 func55 rfl rfl rfl fun C hC=>?_
 obtain⟨p,k,h⟩:=Qc h
 refine Qa hC [.n 9,.o (.ln b.length),.v (.bd []) [] (.sl 1 (([(b.length:Int)]:List Int).map Qq)),.cm (.fn) [(605,605)] [(605,605)] [605] [.d,.d] [(605,.arr 1 (p.map Qi))] (.own 605 p.length),.n 7,.o (.ln b.length),.n 4,.K [0,2,14,15,16] [605]] rfl ⟨⟨⟨⟨tt_,Qj⟩,rfl⟩,(Qah _ _ k)⟩,Qj⟩ ?_
 obtain⟨l,c,h⟩:=Qc h
 refine AK.loop (body:=(fun st=>QaA b st.1 st.2)) (fun st σ=>σ=⟨[(0,.own 605 st.2.length),(2,.clo (.func 57) [] []),(14,.sl 1 (b.map QG)),(15,.I (b.length:Int)),(16,.I st.1)],[(605,.arr 1 (st.2.map Qi))]⟩) (fun q e σ=>e=.exit 0∧σ=⟨[(0,.own 605 q.length)],[(605,.arr 1 (q.map Qi))]⟩) c rfl ?_ ?_
 ·rintro ⟨s,t⟩ o σ rfl h
  refine tg_ hC [.n 6] rfl ?_
  rcases QP h with⟨a,h⟩|⟨a,h⟩
  ·obtain⟨m,f,h⟩:=Qc h
   obtain⟨g,i,h⟩:=Qc h
   refine Qa hC [.T,.n 6,.o (.row (QG m)),.n 8,.cm (.clo) [(605,605)] [(605,605)] [605] [.d,.d] [(605,.arr 1 (g.map Qi))] (.own 605 g.length),.n 8,.K [0,2,14,15,16] [605]] rfl ⟨⟨⟨tt_,a⟩,(Qan f)⟩,(Qkw _ _ i)⟩ ?_
   cases h
   exact QaF rfl rfl
  refine Qa hC [.F,.n 2,.K [0] [605]] rfl ⟨tt_,a⟩ ?_
  cases h
  exact QaC rfl (an_ rfl rfl)
 replace h:QdZ l=some r:=h
 rintro e σ ⟨rfl,rfl⟩
 refine tg_ hC [.n 9] rfl ?_
 cases h
 exact d1_ rfl rfl ⟨rfl,tt_⟩
def QeU (b:(List Int))(a:Qk):Option (List Int):=
 (Qac b ([a.Id]:List Int)).bind fun c=>
 (QdD c a.Mode).bind fun d=>
 (Qac d ([a.Batch.Most,a.Batch.Enough,a.Batch.Open,a.Batch.Done,a.Batch.Failed,a.Until]:List Int)).bind fun e=>
 some e
theorem Qka (c b){r}(h:QeU c b=some r):Qf prog 58 [.own 605 c.length,.agg (Qd b)] [(605,.arr 1 (c.map Qi))] (Qp (.own 605 r.length) [(605,.arr 1 (r.map Qi))]):=by
 refine Qf.walk 30 func58 rfl rfl rfl fun C hC=>?_
 obtain⟨i,e,h⟩:=Qc h
 obtain⟨j,f,h⟩:=Qc h
 obtain⟨k,g,h⟩:=Qc h
 refine Qa hC [.n 9,.v .no [] (.agg (Qaf b.Batch)),.n 2,.O 5 (.var (Qaf b.Batch)),.n 3,.K [0,3,4,5] [3,5,605]] rfl ⟨⟨tt_,rfl⟩,rfl⟩ ?_
 refine AK.draw2 Ql hC mixed [.N,.N,.N,.a (.bd []) (some ([],.sl 1 (([b.Id]:List Int).map Qq))) false,.m (.cm (.fn) [(605,605)] [(605,605)] [605] [.d,.d] [(605,.arr 1 (i.map Qi))] (.own 605 i.length) []),.a .no none true,.a .no (some ([],.agg (Qaa b.Mode))) true,.m (.cm (.fn) [(605,605)] [(605,605)] [605] [.d,.d] [(605,.arr 1 (j.map Qi))] (.own 605 j.length) []),.a .no none true,.a .no none true,.a .no none true,.a .no none true,.a .no none true,.a .no none true,.a .no none true,.a .no none true,.a .no none true,.a .no none true,.a .no none true,.a .no none true,.a (.bd []) (some ([],.sl 1 (([b.Batch.Most,b.Batch.Enough,b.Batch.Open,b.Batch.Done,b.Batch.Failed,b.Until]:List Int).map Qq))) true,.m (.cm (.fn) [(605,605)] [(605,605)] [605] [.d,.d] [(605,.arr 1 (k.map Qi))] (.own 605 k.length) []),.m .s] [3,4,5] [3,5] [4] [605] rfl rfl rfl ⟨⟨⟨⟨⟨⟨tt_,rfl⟩,⟨tt_,(Qah _ _ e)⟩⟩,rfl⟩,⟨tt_,(Qg8 _ _ f)⟩⟩,rfl⟩,⟨tt_,(Qah _ _ g)⟩⟩ rfl (by kernel_rfl) rfl rfl rfl ?_
 refine tg_ hC [.n 2] rfl ?_
 cases h
 exact d1_ rfl rfl ⟨rfl,tt_⟩
def Qau (d:(List Qk))(a:Int)(e:(List Int)):Option ((Int×(List Int))⊕(List Int)):=
 bif (decide (a<(d.length:Int)))then
 (idx d a).bind fun b=>
 (QeU e b).bind fun c=>
 some (.inl ((w64 (a+1)),c))
 else
 some (.inr e)
def QdO (a:(List Int)):Option (List Int):=
 some a
def QcW (b:(List Int))(a:(List Qk)):Option (List Int):=
 (Qac b ([(a.length:Int)]:List Int)).bind fun c=>
 (QU (fun st=>Qau a st.1 st.2) (0,c)).bind (fun q=>QdO q)
theorem QgN (k c){r}(h:QcW k c=some r):Qf prog 54 [.own 605 k.length,.sl 11 (c.map Qd),.clo (.func 58) [] []] [(605,.arr 1 (k.map Qi))] (Qp (.own 605 r.length) [(605,.arr 1 (r.map Qi))]):=by
 refine Qf.walk 26 func54 rfl rfl rfl fun C hC=>?_
 obtain⟨p,l,h⟩:=Qc h
 refine Qa hC [.n 9,.o (.ln c.length),.v (.bd []) [] (.sl 1 (([(c.length:Int)]:List Int).map Qq)),.cm (.fn) [(605,605)] [(605,605)] [605] [.d,.d] [(605,.arr 1 (p.map Qi))] (.own 605 p.length),.n 7,.o (.ln c.length),.n 4,.K [0,2,14,15,16] [605]] rfl ⟨⟨⟨⟨tt_,Qj⟩,rfl⟩,(Qah _ _ l)⟩,Qj⟩ ?_
 obtain⟨m,f,h⟩:=Qc h
 refine AK.loop (body:=(fun st=>Qau c st.1 st.2)) (fun st σ=>σ=⟨[(0,.own 605 st.2.length),(2,.clo (.func 58) [] []),(14,.sl 11 (c.map Qd)),(15,.I (c.length:Int)),(16,.I st.1)],[(605,.arr 1 (st.2.map Qi))]⟩) (fun q e σ=>e=.exit 0∧σ=⟨[(0,.own 605 q.length)],[(605,.arr 1 (q.map Qi))]⟩) f rfl ?_ ?_
 ·rintro ⟨s,t⟩ o σ rfl h
  refine tg_ hC [.n 6] rfl ?_
  rcases QP h with⟨a,h⟩|⟨a,h⟩
  ·obtain⟨b,g,h⟩:=Qc h
   obtain⟨i,j,h⟩:=Qc h
   refine Qa hC [.T,.n 6,.o (.row (Qd b)),.v .no [] (.agg (Qd b)),.n 2,.O 8 (.var (Qd b)),.n 5,.v .no [] (.agg (Qd b)),.cm (.clo) [(605,605)] [(605,605)] [605] [.d,.d] [(605,.arr 1 (i.map Qi))] (.own 605 i.length),.n 8,.K [0,2,14,15,16] [605]] rfl ⟨⟨⟨⟨⟨⟨tt_,a⟩,(Qan g)⟩,rfl⟩,rfl⟩,rfl⟩,(Qka _ _ j)⟩ ?_
   cases h
   exact QaF rfl rfl
  refine Qa hC [.F,.n 2,.K [0] [605]] rfl ⟨tt_,a⟩ ?_
  cases h
  exact QaC rfl (an_ rfl rfl)
 replace h:QdO m=some r:=h
 rintro e σ ⟨rfl,rfl⟩
 refine tg_ hC [.n 9] rfl ?_
 cases h
 exact d1_ rfl rfl ⟨rfl,tt_⟩
def Qbz (a:QS):Option (List Int):=
 (QfF ([a.Next,a.Now]:List Int)).bind fun b=>
 (Qdh b a.M).bind fun c=>
 (QcW c a.Items).bind fun d=>
 some d
theorem QaZ (b){r}(h:Qbz b=some r):Qf prog 24 [.agg (Qs b)] [] (Qp (.own 600 r.length) [(600,.arr 1 (r.map Qi))]):=by
 refine Qf.walk 15 func24 rfl rfl rfl fun C hC=>?_
 obtain⟨g,c,h⟩:=Qc h
 obtain⟨i,e,h⟩:=Qc h
 obtain⟨j,f,h⟩:=Qc h
 refine tg_ hC [.n 7,.K [1,2] [1]] rfl ?_
 refine AK.draw2 Ql hC mixed [.N,.N,.N,.N,.a (.bd []) (some ([],.sl 1 (([b.Next,b.Now]:List Int).map Qq))) false,.m (.cm (.fn) [] [(8,600)] [8] [.d,.d] [(600,.arr 1 (g.map Qi))] (.own 600 g.length) []),.a .no none true,.a .no none true,.m (.cm (.fn) [(605,8)] [(8,605)] [8] [.d,.d,.d] [(605,.arr 1 (i.map Qi))] (.own 605 i.length) []),.a .no none true,.a .no none true,.m (.cm (.fn) [(605,8)] [(8,605)] [8] [.d,.d,.d] [(605,.arr 1 (j.map Qi))] (.own 605 j.length) []),.m .s] [1,2] [1] [2] [8] rfl rfl rfl ⟨⟨⟨⟨tt_,rfl⟩,⟨tt_,(QhL _ c)⟩⟩,⟨tt_,(Qhz _ _ e)⟩⟩,⟨tt_,(QgN _ _ f)⟩⟩ rfl (by kernel_rfl) rfl rfl rfl ?_
 refine tg_ hC [.n 2,.K [2] [8],.ren 8 600] rfl ?_
 cases h
 exact d1_ rfl rfl ⟨rfl,tt_⟩
def Qd0 (c:Qe)(d:Int)(e:Int):Option (Qe×QS):=
 (Qy c).bind fun a=>
 (Qy a.2).bind fun b=>
 some (b.2,(QS.mk ([]:List QBg) ([]:List Qk) a.1 b.1))
theorem Qgg (k l f){r}(h:Qd0 k l f=some r):Qf prog 67 [.loc 607 0 0,.own 608 2] [(607,.var (Qb k)),(608,.var [.loc 609 0 2,.loc 609 0 3]),(609,.var [.lit (.slice none 0 0),.lit (.slice none 0 0),.I l,.I f])] (Qp (.tup []) [(607,.var (Qb r.1)),(608,.var [.loc 609 0 2,.loc 609 0 3]),(609,.var (Qs r.2))]):=by
 refine Qf.walk 17 func67 rfl rfl rfl fun C hC=>?_
 refine tg_ hC [.n 8] rfl ?_
 refine AK.loopN 3 (AK.rnd ?_)
 obtain⟨a,g,h⟩:=Qc h
 refine Qa hC [.n 2,.v .no [] (.b true),.n 10,.o (.any (.loc 608 0 0) none),.n 7,.cm (.fn) [(607,607)] [(607,607)] [] [.d] [(607,.var (Qb a.2))] (.I a.1),.n 2,.O 609 (.var [.lit (.slice none 0 0),.lit (.slice none 0 0),.I a.1,.I f]),.n 4,.v .no [] (.I 1),.n 2] rfl ⟨⟨⟨⟨⟨tt_,rfl⟩,(fun σ c i _=>Stp.idxV rfl rfl (Qo hC.n rfl) (c _ _ rfl) (c _ _ rfl) (Ql.es rfl) (i _ _ rfl) (by decide))⟩,(Qu _ g)⟩,rfl⟩,rfl⟩ ?_
 refine AK.met (AK.rnd ?_)
 obtain⟨e,j,h⟩:=Qc h
 refine Qa hC [.n 2,.v .no [] (.b true),.n 10,.o (.any (.loc 608 0 1) none),.n 7,.cm (.fn) [(607,607)] [(607,607)] [] [.d] [(607,.var (Qb e.2))] (.I e.1),.n 2,.O 609 (.var [.lit (.slice none 0 0),.lit (.slice none 0 0),.I a.1,.I e.1]),.n 4,.v .no [] (.I 2),.n 2] rfl ⟨⟨⟨⟨⟨tt_,rfl⟩,(fun σ c i _=>Stp.idxV rfl rfl (Qo hC.n rfl) (c _ _ rfl) (c _ _ rfl) (Ql.es rfl) (i _ _ rfl) (by decide))⟩,(Qu _ j)⟩,rfl⟩,rfl⟩ ?_
 refine AK.met (AK.rnd ?_)
 refine Qa hC [.n 2,.v .no [] (.b false),.n 8,.denilO 609 [some 1,some 11,none,none],.O 609 (.var (Qs (QS.mk ([]:List QBg) ([]:List Qk) a.1 e.1))),.K [] [607,608,609]] rfl ⟨⟨tt_,rfl⟩,rfl⟩ ?_
 cases h
 refine AK.done ?_
 exact ex_ [] (an_ tt_ (QaJ ⟨rfl,rfl,rfl,tt_⟩))
def Qd1 (c:Qe)(d:(Int×Int)):Option (Qe×(Int×Int)):=
 (Qy c).bind fun a=>
 (Qy a.2).bind fun b=>
 some (b.2,(a.1,b.1))
theorem Qgh (k e){r}(h:Qd1 k e=some r):Qf prog 67 [.loc 607 0 0,.own 608 2] [(607,.var (Qb k)),(608,.var [.loc 609 0 0,.loc 609 0 1]),(609,.var (QB e))] (Qp (.tup []) [(607,.var (Qb r.1)),(608,.var [.loc 609 0 0,.loc 609 0 1]),(609,.var (QB r.2))]):=by
 refine Qf.walk 17 func67 rfl rfl rfl fun C hC=>?_
 refine tg_ hC [.n 8] rfl ?_
 refine AK.loopN 3 (AK.rnd ?_)
 obtain⟨c,f,h⟩:=Qc h
 refine Qa hC [.n 2,.v .no [] (.b true),.n 10,.o (.any (.loc 608 0 0) none),.n 7,.cm (.fn) [(607,607)] [(607,607)] [] [.d] [(607,.var (Qb c.2))] (.I c.1),.n 2,.O 609 (.var (QB (c.1,e.2))),.n 4,.v .no [] (.I 1),.n 2] rfl ⟨⟨⟨⟨⟨tt_,rfl⟩,(fun σ a g _=>Stp.idxV rfl rfl (Qo hC.n rfl) (a _ _ rfl) (a _ _ rfl) (Ql.es rfl) (g _ _ rfl) (by decide))⟩,(Qu _ f)⟩,rfl⟩,rfl⟩ ?_
 refine AK.met (AK.rnd ?_)
 obtain⟨i,j,h⟩:=Qc h
 refine Qa hC [.n 2,.v .no [] (.b true),.n 10,.o (.any (.loc 608 0 1) none),.n 7,.cm (.fn) [(607,607)] [(607,607)] [] [.d] [(607,.var (Qb i.2))] (.I i.1),.n 2,.O 609 (.var (QB (c.1,i.1))),.n 4,.v .no [] (.I 2),.n 2] rfl ⟨⟨⟨⟨⟨tt_,rfl⟩,(fun σ a g _=>Stp.idxV rfl rfl (Qo hC.n rfl) (a _ _ rfl) (a _ _ rfl) (Ql.es rfl) (g _ _ rfl) (by decide))⟩,(Qu _ j)⟩,rfl⟩,rfl⟩ ?_
 refine AK.met (AK.rnd ?_)
 refine Qa hC [.n 2,.v .no [] (.b false),.n 8,.K [] [607,608,609]] rfl ⟨tt_,rfl⟩ ?_
 cases h
 refine AK.done ?_
 exact ex_ [] (an_ tt_ (QaJ ⟨rfl,rfl,rfl,tt_⟩))
def Qf2 (b:Qe):Option ((Int×Int)×Qe):=
 (Qd1 b (0,0)).bind fun a=>
 some (a.2,a.1)
theorem Qiz (c){r}(h:Qf2 c=some r):Qf prog 100 [.loc 607 0 0] [(607,.var (Qb c))] (Qp (.agg (QB r.1)) [(607,.var (Qb r.2))]):=by
 refine Qf.walk 10 func100 rfl rfl rfl fun C hC=>?_
 obtain⟨a,b,h⟩:=Qc h
 refine Qa hC [.n 15,.o (.any (.own 7 2) (some (.var [.loc 3 0 0,.loc 3 0 1]))),.cm (.fn) [(607,607),(608,7),(609,3)] [(607,607),(7,608),(3,609)] [] [.d,.d] [(607,.var (Qb a.1)),(608,.var [.loc 609 0 0,.loc 609 0 1]),(609,.var (QB a.2))] (.tup []),.n 4,.v .no [] (.agg (QB a.2)),.n 1,.O 2 (.var (QB a.2)),.n 3,.K [2] [2,607]] rfl ⟨⟨⟨⟨tt_,(fun σ e f hf=>Stp.buildAny rfl rfl (Qo hC.n rfl) (Ql.es rfl) Qix rfl (by decide) (by decide) (Qb3 e rfl) rfl rfl (hf rfl))⟩,(Qgh _ _ b)⟩,rfl⟩,rfl⟩ ?_
 cases h
 exact AK.done (ex_ [_] (an_ (an_ (ex_ _ (ex_ _ (an_ rfl (an_ rfl (Or.inl (an_ (Ql.ag rfl) (an_ (Ql.sz rfl) rfl))))))) tt_) (QaJ ⟨rfl,tt_⟩)))
def QhN (a:(Int×Qe)):Option Qe:=
 bif a.2.bad then
 some (Qe.mk a.2.b true)
 else
 some (Qe.mk a.2.b (decide (a.1<0)))
def Qex (e:(Int×Qe))(d:Int)(a:Qe)(b:QBg):Option ((Int×Qe×QBg)⊕(QBg×Qe)):=
 bif ((decide (d<e.1))&&(!a.bad))then
 (Qf2 a).bind fun c=>
 (chk (decide (b.length+([c.1]:List (Int×Int)).length≤4294967296))).bind fun _=>
 some (.inl ((w64 (d+1)),c.2,(b++([c.1]:List (Int×Int)))))
 else
 some (.inr (b,a))
def Qey (a:QBg)(b:Qe):Option (QBg×Qe):=
 some (a,b)
def QcD (a:(Int×Qe))(b:Qe):Option (QBg×Qe):=
 (QU (fun st=>Qex a st.1 st.2.1 st.2.2) (0,b,([]:List (Int×Int)))).bind (fun q=>Qey q.1 q.2)
def QfO (b:Qe):Option (QBg×Qe):=
 (Qy b).bind fun a=>
 (QhN a).bind (fun c=>QcD a c)
theorem QhO (A){r}(h:QfO A=some r):Qf prog 99 [.loc 607 0 0,.clo (.func 100) [] []] [(607,.var (Qb A))] (Qp (.own 600 r.1.length) [(600,.arr 2 (r.1.map QB)),(607,.var (Qb r.2))]):=by
 refine Qf.walk 40 func99 rfl rfl rfl fun C hC=>?_
 obtain⟨c,t,h⟩:=Qc h
 refine Qa hC [.n 8,.cm (.fn) [(607,607)] [(607,607)] [] [.d] [(607,.var (Qb c.2))] (.I c.1),.n 4] rfl ⟨tt_,(Qu _ t)⟩ ?_
 obtain⟨u,w,h⟩:=Qc h
 replace h:QcD c u=some r:=h
 refine AK.meetX (fun σ=>σ=⟨[(0,.loc 607 0 0),(1,.clo (.func 100) [] []),(5,.I c.1)],[(607,.var (Qb u))]⟩) ?_ ?_
 ·replace h:=w
  refine tg_ hC [.n 7] rfl ?_
  refine bg_ h (fun k h=>Qa hC [.S 15 (.b true),.n 6,.O 607 (.var (Qb (Qe.mk c.2.b true))),.n 1,.K [0,1,5] [607]] rfl ⟨(tc_ k),rfl⟩ ?_) fun k h=>Qa hC [.S 15 (.b false),.n 6,.O 607 (.var (Qb (Qe.mk c.2.b (decide (c.1<0))))),.n 1,.K [0,1,5] [607]] rfl ⟨(tc_ k),rfl⟩ ?_
  ·cases h
   exact AK.met rfl
  cases h
  exact AK.met rfl
 rintro σ rfl
 replace h:QcD c u=some r:=h
 refine Qa hC [.n 13,.adopt 6 33 2,.O 33 (.arr 2 (([]:List (Int×Int)).map QB)),.S 6 (.own 33 ([]:List (Int×Int)).length),.K [0,1,5,6,7] [33,607]] rfl ⟨⟨tt_,rfl⟩,(congrArg (fun n=>V.own 33 n) (by simp))⟩ ?_
 obtain⟨x,l,h⟩:=Qc h
 refine AK.loop (body:=(fun st=>Qex c st.1 st.2.1 st.2.2)) (fun st σ=>σ=⟨[(0,.loc 607 0 0),(1,.clo (.func 100) [] []),(5,.I c.1),(6,.own 33 st.2.2.length),(7,.I st.1)],[(33,.arr 2 (st.2.2.map QB)),(607,.var (Qb st.2.1))]⟩) (fun q e σ=>e=.exit 0∧σ=⟨[(6,.own 33 q.1.length)],[(33,.arr 2 (q.1.map QB)),(607,.var (Qb q.2))]⟩) l rfl ?_ ?_
 ·rintro ⟨m,i,j⟩ o σ rfl h
  refine tg_ hC [.n 2] rfl ?_
  refine AK.meetX (fun σ=>σ=⟨[(0,.loc 607 0 0),(1,.clo (.func 100) [] []),(5,.I c.1),(6,.own 33 j.length),(7,.I m),(30,.b ((decide (m<c.1))&&(!i.bad)))],[(33,.arr 2 (j.map QB)),(607,.var (Qb i))]⟩) ?_ ?_
  ·refine tg_ hC [.n 5] rfl ?_
   rcases QbM (decide (m<c.1))with a | a
   ·refine Qa hC [.S 24 (.b true),.n 7,.S 30 (.b ((decide (m<c.1))&&(!i.bad))),.K [0,1,5,6,7,30] [33,607]] rfl ⟨(tc_ a),(congrArg V.b (Qid a rfl))⟩ ?_
    exact AK.met rfl
   refine Qa hC [.S 24 (.b false),.n 7,.S 30 (.b ((decide (m<c.1))&&(!i.bad))),.K [0,1,5,6,7,30] [33,607]] rfl ⟨(tc_ a),(congrArg V.b (Qie a rfl))⟩ ?_
   exact AK.met rfl
  rintro σ rfl
  refine tg_ hC [.n 1] rfl ?_
  rcases QP h with⟨f,h⟩|⟨f,h⟩
  ·obtain⟨g,p,h⟩:=Qc h
   obtain⟨s,h⟩:=Qb5 h
   refine Qa hC [.T,.n 8,.cm (.clo) [(607,607)] [(607,607)] [] [.d] [(607,.var (Qb g.2))] (.agg (QB g.1)),.v (.bd []) [] (.sl 2 (([g.1]:List (Int×Int)).map QB)),.app ((j++([g.1]:List (Int×Int))).map QB) (j++([g.1]:List (Int×Int))).length,.n 9,.K [0,1,5,6,7] [33,607]] rfl ⟨⟨⟨⟨tt_,f⟩,(Qiz _ p)⟩,rfl⟩,⟨Qj,Qc6 s Qj,QbY,Qeg Qj⟩⟩ ?_
   cases h
   exact QaF rfl rfl
  refine Qa hC [.F,.n 2,.K [6] [33,607]] rfl ⟨tt_,f⟩ ?_
  cases h
  exact QaC rfl (an_ rfl rfl)
 obtain⟨y,z⟩:=x
 replace h:Qey y z=some r:=h
 rintro e σ ⟨rfl,rfl⟩
 refine tg_ hC [.n 9,.K [4] [33,607],.ren 33 600] rfl ?_
 cases h
 exact d1_ rfl rfl ⟨rfl,rfl,tt_⟩
def Qg9 (b:Qe):Option (QBg×Qe):=
 (QfO b).bind fun a=>
 some (a.1,a.2)
theorem Qjc (c){r}(h:Qg9 c=some r):Qf prog 69 [.loc 607 0 0] [(607,.var (Qb c))] (Qp (.own 600 r.1.length) [(600,.arr 2 (r.1.map QB)),(607,.var (Qb r.2))]):=by
 refine Qf.walk 5 func69 rfl rfl rfl fun C hC=>?_
 obtain⟨a,b,h⟩:=Qc h
 refine Qa hC [.n 8,.cm (.fn) [(607,607)] [(4,600),(607,607)] [] [.d,.d] [(600,.arr 2 (a.1.map QB)),(607,.var (Qb a.2))] (.own 600 a.1.length),.n 4,.K [2] [4,607],.ren 4 600] rfl ⟨tt_,(QhO _ b)⟩ ?_
 cases h
 exact d1_ rfl rfl ⟨rfl,rfl,tt_⟩
def QgO (a:(Int×Qe)):Option Qe:=
 bif a.2.bad then
 some (Qe.mk a.2.b true)
 else
 some (Qe.mk a.2.b (decide (a.1<0)))
def QdP (e:(Int×Qe))(d:Int)(a:Qe)(b:QMk):Option ((Int×Qe×QMk)⊕(QMk×Qe)):=
 bif ((decide (d<e.1))&&(!a.bad))then
 (Qg9 a).bind fun c=>
 (chk (decide (b.length+([c.1]:List QBg).length≤4294967296))).bind fun _=>
 some (.inl ((w64 (d+1)),c.2,(b++([c.1]:List QBg))))
 else
 some (.inr (b,a))
def QdQ (a:QMk)(b:Qe):Option (QMk×Qe):=
 some (a,b)
def Qcf (a:(Int×Qe))(b:Qe):Option (QMk×Qe):=
 (QU (fun st=>QdP a st.1 st.2.1 st.2.2) (0,b,([]:List QBg))).bind (fun q=>QdQ q.1 q.2)
def QeV (b:Qe):Option (QMk×Qe):=
 (Qy b).bind fun a=>
 (QgO a).bind (fun c=>Qcf a c)
theorem QgP (A){r}(h:QeV A=some r):Qf prog 68 [.loc 607 0 0,.clo (.func 69) [] []] [(607,.var (Qb A))] (Qp (.own 600 r.1.length) [(600,.arr 1 (r.1.map QG)),(607,.var (Qb r.2))]):=by
 refine Qf.walk 40 func68 rfl rfl rfl fun C hC=>?_
 obtain⟨c,t,h⟩:=Qc h
 refine Qa hC [.n 8,.cm (.fn) [(607,607)] [(607,607)] [] [.d] [(607,.var (Qb c.2))] (.I c.1),.n 4] rfl ⟨tt_,(Qu _ t)⟩ ?_
 obtain⟨u,w,h⟩:=Qc h
 replace h:Qcf c u=some r:=h
 refine AK.meetX (fun σ=>σ=⟨[(0,.loc 607 0 0),(1,.clo (.func 69) [] []),(5,.I c.1)],[(607,.var (Qb u))]⟩) ?_ ?_
 ·replace h:=w
  refine tg_ hC [.n 7] rfl ?_
  refine bg_ h (fun k h=>Qa hC [.S 15 (.b true),.n 6,.O 607 (.var (Qb (Qe.mk c.2.b true))),.n 1,.K [0,1,5] [607]] rfl ⟨(tc_ k),rfl⟩ ?_) fun k h=>Qa hC [.S 15 (.b false),.n 6,.O 607 (.var (Qb (Qe.mk c.2.b (decide (c.1<0))))),.n 1,.K [0,1,5] [607]] rfl ⟨(tc_ k),rfl⟩ ?_
  ·cases h
   exact AK.met rfl
  cases h
  exact AK.met rfl
 rintro σ rfl
 replace h:Qcf c u=some r:=h
 refine Qa hC [.n 13,.adopt 6 33 1,.O 33 (.arr 1 (([]:List QBg).map QG)),.S 6 (.own 33 ([]:List QBg).length),.K [0,1,5,6,7] [33,607]] rfl ⟨⟨tt_,rfl⟩,(congrArg (fun n=>V.own 33 n) (by simp))⟩ ?_
 obtain⟨x,l,h⟩:=Qc h
 refine AK.loop (body:=(fun st=>QdP c st.1 st.2.1 st.2.2)) (fun st σ=>σ=⟨[(0,.loc 607 0 0),(1,.clo (.func 69) [] []),(5,.I c.1),(6,.own 33 st.2.2.length),(7,.I st.1)],[(33,.arr 1 (st.2.2.map QG)),(607,.var (Qb st.2.1))]⟩) (fun q e σ=>e=.exit 0∧σ=⟨[(6,.own 33 q.1.length)],[(33,.arr 1 (q.1.map QG)),(607,.var (Qb q.2))]⟩) l rfl ?_ ?_
 ·rintro ⟨m,i,j⟩ o σ rfl h
  refine tg_ hC [.n 2] rfl ?_
  refine AK.meetX (fun σ=>σ=⟨[(0,.loc 607 0 0),(1,.clo (.func 69) [] []),(5,.I c.1),(6,.own 33 j.length),(7,.I m),(30,.b ((decide (m<c.1))&&(!i.bad)))],[(33,.arr 1 (j.map QG)),(607,.var (Qb i))]⟩) ?_ ?_
  ·refine tg_ hC [.n 5] rfl ?_
   rcases QbM (decide (m<c.1))with a | a
   ·refine Qa hC [.S 24 (.b true),.n 7,.S 30 (.b ((decide (m<c.1))&&(!i.bad))),.K [0,1,5,6,7,30] [33,607]] rfl ⟨(tc_ a),(congrArg V.b (Qid a rfl))⟩ ?_
    exact AK.met rfl
   refine Qa hC [.S 24 (.b false),.n 7,.S 30 (.b ((decide (m<c.1))&&(!i.bad))),.K [0,1,5,6,7,30] [33,607]] rfl ⟨(tc_ a),(congrArg V.b (Qie a rfl))⟩ ?_
   exact AK.met rfl
  rintro σ rfl
  refine tg_ hC [.n 1] rfl ?_
  rcases QP h with⟨g,h⟩|⟨g,h⟩
  ·obtain⟨f,p,h⟩:=Qc h
   obtain⟨s,h⟩:=Qb5 h
   refine Qa hC [.T,.n 8,.cm (.clo) [(607,607)] [(36,600),(607,607)] [] [.d] [(600,.arr 2 (f.1.map QB)),(607,.var (Qb f.2))] (.own 600 f.1.length),.frz 36 (f.1.map QB) [36] [],.v (.bd []) [] (.sl 1 (([f.1]:List QBg).map QG)),.app ((j++([f.1]:List QBg)).map QG) (j++([f.1]:List QBg)).length,.n 9,.K [0,1,5,6,7] [33,607]] rfl ⟨⟨⟨⟨⟨tt_,g⟩,(Qjc _ p)⟩,⟨tt_,(Qb4 Qj)⟩⟩,rfl⟩,⟨Qj,Qc6 s Qj,QbY,Qeg Qj⟩⟩ ?_
   cases h
   exact QaF rfl rfl
  refine Qa hC [.F,.n 2,.K [6] [33,607]] rfl ⟨tt_,g⟩ ?_
  cases h
  exact QaC rfl (an_ rfl rfl)
 obtain⟨y,z⟩:=x
 replace h:QdQ y z=some r:=h
 rintro e σ ⟨rfl,rfl⟩
 refine tg_ hC [.n 9,.K [4] [33,607],.ren 33 600] rfl ?_
 cases h
 exact d1_ rfl rfl ⟨rfl,rfl,tt_⟩
def Qd2 (h:Qe)(b:Qk):Option (Qe×Qk):=
 (Qy h).bind fun c=>
 (Qy c.2).bind fun d=>
 (Qy d.2).bind fun e=>
 (Qy e.2).bind fun f=>
 (Qy f.2).bind fun g=>
 (Qy g.2).bind fun a=>
 some (a.2,(Qk.mk b.Id b.Mode (Qam.mk c.1 d.1 e.1 f.1 g.1) a.1))
theorem Qgi (w a){r}(h:Qd2 w a=some r):Qf prog 67 [.loc 607 0 0,.own 608 6] [(607,.var (Qb w)),(608,.var [.loc 609 0 5,.loc 609 0 6,.loc 609 0 7,.loc 609 0 8,.loc 609 0 9,.loc 609 0 10]),(609,.var (Qd a))] (Qp (.tup []) [(607,.var (Qb r.1)),(608,.var [.loc 609 0 5,.loc 609 0 6,.loc 609 0 7,.loc 609 0 8,.loc 609 0 9,.loc 609 0 10]),(609,.var (Qd r.2))]):=by
 refine Qf.walk 17 func67 rfl rfl rfl fun C hC=>?_
 refine tg_ hC [.n 8] rfl ?_
 refine AK.loopN 7 (AK.rnd ?_)
 obtain⟨f,p,h⟩:=Qc h
 refine Qa hC [.n 2,.v .no [] (.b true),.n 10,.o (.any (.loc 608 0 0) none),.n 7,.cm (.fn) [(607,607)] [(607,607)] [] [.d] [(607,.var (Qb f.2))] (.I f.1),.n 2,.O 609 (.var (Qd (Qk.mk a.Id a.Mode (Qam.mk f.1 a.Batch.Enough a.Batch.Open a.Batch.Done a.Batch.Failed) a.Until))),.n 4,.v .no [] (.I 1),.n 2] rfl ⟨⟨⟨⟨⟨tt_,rfl⟩,(fun σ c e _=>Stp.idxV rfl rfl (Qo hC.n rfl) (c _ _ rfl) (c _ _ rfl) (Ql.es rfl) (e _ _ rfl) (by decide))⟩,(Qu _ p)⟩,rfl⟩,rfl⟩ ?_
 refine AK.met (AK.rnd ?_)
 obtain⟨g,q,h⟩:=Qc h
 refine Qa hC [.n 2,.v .no [] (.b true),.n 10,.o (.any (.loc 608 0 1) none),.n 7,.cm (.fn) [(607,607)] [(607,607)] [] [.d] [(607,.var (Qb g.2))] (.I g.1),.n 2,.O 609 (.var (Qd (Qk.mk a.Id a.Mode (Qam.mk f.1 g.1 a.Batch.Open a.Batch.Done a.Batch.Failed) a.Until))),.n 4,.v .no [] (.I 2),.n 2] rfl ⟨⟨⟨⟨⟨tt_,rfl⟩,(fun σ c e _=>Stp.idxV rfl rfl (Qo hC.n rfl) (c _ _ rfl) (c _ _ rfl) (Ql.es rfl) (e _ _ rfl) (by decide))⟩,(Qu _ q)⟩,rfl⟩,rfl⟩ ?_
 refine AK.met (AK.rnd ?_)
 obtain⟨j,s,h⟩:=Qc h
 refine Qa hC [.n 2,.v .no [] (.b true),.n 10,.o (.any (.loc 608 0 2) none),.n 7,.cm (.fn) [(607,607)] [(607,607)] [] [.d] [(607,.var (Qb j.2))] (.I j.1),.n 2,.O 609 (.var (Qd (Qk.mk a.Id a.Mode (Qam.mk f.1 g.1 j.1 a.Batch.Done a.Batch.Failed) a.Until))),.n 4,.v .no [] (.I 3),.n 2] rfl ⟨⟨⟨⟨⟨tt_,rfl⟩,(fun σ c e _=>Stp.idxV rfl rfl (Qo hC.n rfl) (c _ _ rfl) (c _ _ rfl) (Ql.es rfl) (e _ _ rfl) (by decide))⟩,(Qu _ s)⟩,rfl⟩,rfl⟩ ?_
 refine AK.met (AK.rnd ?_)
 obtain⟨k,t,h⟩:=Qc h
 refine Qa hC [.n 2,.v .no [] (.b true),.n 10,.o (.any (.loc 608 0 3) none),.n 7,.cm (.fn) [(607,607)] [(607,607)] [] [.d] [(607,.var (Qb k.2))] (.I k.1),.n 2,.O 609 (.var (Qd (Qk.mk a.Id a.Mode (Qam.mk f.1 g.1 j.1 k.1 a.Batch.Failed) a.Until))),.n 4,.v .no [] (.I 4),.n 2] rfl ⟨⟨⟨⟨⟨tt_,rfl⟩,(fun σ c e _=>Stp.idxV rfl rfl (Qo hC.n rfl) (c _ _ rfl) (c _ _ rfl) (Ql.es rfl) (e _ _ rfl) (by decide))⟩,(Qu _ t)⟩,rfl⟩,rfl⟩ ?_
 refine AK.met (AK.rnd ?_)
 obtain⟨m,u,h⟩:=Qc h
 refine Qa hC [.n 2,.v .no [] (.b true),.n 10,.o (.any (.loc 608 0 4) none),.n 7,.cm (.fn) [(607,607)] [(607,607)] [] [.d] [(607,.var (Qb m.2))] (.I m.1),.n 2,.O 609 (.var (Qd (Qk.mk a.Id a.Mode (Qam.mk f.1 g.1 j.1 k.1 m.1) a.Until))),.n 4,.v .no [] (.I 5),.n 2] rfl ⟨⟨⟨⟨⟨tt_,rfl⟩,(fun σ c e _=>Stp.idxV rfl rfl (Qo hC.n rfl) (c _ _ rfl) (c _ _ rfl) (Ql.es rfl) (e _ _ rfl) (by decide))⟩,(Qu _ u)⟩,rfl⟩,rfl⟩ ?_
 refine AK.met (AK.rnd ?_)
 obtain⟨i,l,h⟩:=Qc h
 refine Qa hC [.n 2,.v .no [] (.b true),.n 10,.o (.any (.loc 608 0 5) none),.n 7,.cm (.fn) [(607,607)] [(607,607)] [] [.d] [(607,.var (Qb i.2))] (.I i.1),.n 2,.O 609 (.var (Qd (Qk.mk a.Id a.Mode (Qam.mk f.1 g.1 j.1 k.1 m.1) i.1))),.n 4,.v .no [] (.I 6),.n 2] rfl ⟨⟨⟨⟨⟨tt_,rfl⟩,(fun σ c e _=>Stp.idxV rfl rfl (Qo hC.n rfl) (c _ _ rfl) (c _ _ rfl) (Ql.es rfl) (e _ _ rfl) (by decide))⟩,(Qu _ l)⟩,rfl⟩,rfl⟩ ?_
 refine AK.met (AK.rnd ?_)
 refine Qa hC [.n 2,.v .no [] (.b false),.n 8,.K [] [607,608,609]] rfl ⟨tt_,rfl⟩ ?_
 cases h
 refine AK.done ?_
 exact ex_ [] (an_ tt_ (QaJ ⟨rfl,rfl,rfl,tt_⟩))
def QgA (d:Qe):Option (Qk×Qe):=
 (Qy d).bind fun a=>
 (Qeo a.2).bind fun b=>
 (Qd2 b.2 (Qk.mk a.1 b.1 (Qam.mk 0 0 0 0 0) 0)).bind fun c=>
 some (c.2,c.1)
theorem QiM (j){r}(h:QgA j=some r):Qf prog 71 [.loc 607 0 0] [(607,.var (Qb j))] (Qp (.agg (Qd r.1)) [(607,.var (Qb r.2))]):=by
 refine Qf.walk 31 func71 rfl rfl rfl fun C hC=>?_
 obtain⟨c,f,h⟩:=Qc h
 obtain⟨e,g,h⟩:=Qc h
 obtain⟨b,i,h⟩:=Qc h
 refine Qa hC [.n 8,.cm (.fn) [(607,607)] [(607,607)] [] [.d] [(607,.var (Qb c.2))] (.I c.1),.n 1,.cm (.fn) [(607,607)] [(607,607)] [] [.d] [(607,.var (Qb e.2))] (.agg (Qaa e.1)),.v .no [] (.agg (Qd (Qk.mk c.1 e.1 (Qam.mk 0 0 0 0 0) 0))),.n 2,.O 3 (.var (Qd (Qk.mk c.1 e.1 (Qam.mk 0 0 0 0 0) 0))),.n 9,.K [0,2,3,4] [2,3,607]] rfl ⟨⟨⟨⟨tt_,(Qu _ f)⟩,(Qfh _ g)⟩,rfl⟩,rfl⟩ ?_
 refine AK.draw2 Ql hC mixed [.N,.N,.N,.N,.N,.N,.N,.N,.N,.N,.N,.N,.N,.N,.N,.N,.N,.a (.any (.own 28 6) (some (.var [.loc 3 0 5,.loc 3 0 6,.loc 3 0 7,.loc 3 0 8,.loc 3 0 9,.loc 3 0 10]))) none false,.m (.cm (.fn) [(607,607),(608,28),(609,3)] [(607,607),(28,608),(3,609)] [] [.d,.d] [(607,.var (Qb b.1)),(608,.var [.loc 609 0 5,.loc 609 0 6,.loc 609 0 7,.loc 609 0 8,.loc 609 0 9,.loc 609 0 10]),(609,.var (Qd b.2))] (.tup []) [28])] [] [] [2,3] [2,3,607] rfl rfl rfl ⟨⟨tt_,(fun σ k l hf=>Stp.buildAny rfl rfl (Qo hC.n rfl) (Ql.es rfl) Qix rfl (by decide) (by decide) (Qb3 k rfl) rfl rfl (hf rfl))⟩,⟨⟨tt_,(Qgi _ _ i)⟩,⟨rfl,tt_⟩⟩⟩ rfl (by kernel_rfl) rfl rfl rfl ?_
 refine Qa hC [.O 3 (.var (Qd b.2)),.O 607 (.var (Qb b.1)),.n 3,.v .no [] (.agg (Qd b.2)),.n 1,.O 2 (.var (Qd b.2)),.n 3,.K [2] [2,607]] rfl ⟨⟨⟨⟨tt_,rfl⟩,rfl⟩,rfl⟩,rfl⟩ ?_
 cases h
 exact AK.done (ex_ [_] (an_ (an_ (ex_ _ (ex_ _ (an_ rfl (an_ rfl (Or.inl (an_ (Ql.ag rfl) (an_ (Ql.sz rfl) rfl))))))) tt_) (QaJ ⟨rfl,tt_⟩)))
def QgB (a:(Int×Qe)):Option Qe:=
 bif a.2.bad then
 some (Qe.mk a.2.b true)
 else
 some (Qe.mk a.2.b (decide (a.1<0)))
def QdF (e:(Int×Qe))(d:Int)(a:Qe)(b:(List Qk)):Option ((Int×Qe×(List Qk))⊕((List Qk)×Qe)):=
 bif ((decide (d<e.1))&&(!a.bad))then
 (QgA a).bind fun c=>
 (chk (decide (b.length+([c.1]:List Qk).length≤4294967296))).bind fun _=>
 some (.inl ((w64 (d+1)),c.2,(b++([c.1]:List Qk))))
 else
 some (.inr (b,a))
def QdG (a:(List Qk))(b:Qe):Option ((List Qk)×Qe):=
 some (a,b)
def Qb6 (a:(Int×Qe))(b:Qe):Option ((List Qk)×Qe):=
 (QU (fun st=>QdF a st.1 st.2.1 st.2.2) (0,b,([]:List Qk))).bind (fun q=>QdG q.1 q.2)
def Qez (b:Qe):Option ((List Qk)×Qe):=
 (Qy b).bind fun a=>
 (QgB a).bind (fun c=>Qb6 a c)
theorem QgC (A){r}(h:Qez A=some r):Qf prog 70 [.loc 607 0 0,.clo (.func 71) [] []] [(607,.var (Qb A))] (Qp (.own 600 r.1.length) [(600,.arr 11 (r.1.map Qd)),(607,.var (Qb r.2))]):=by
 refine Qf.walk 40 func70 rfl rfl rfl fun C hC=>?_
 obtain⟨c,t,h⟩:=Qc h
 refine Qa hC [.n 8,.cm (.fn) [(607,607)] [(607,607)] [] [.d] [(607,.var (Qb c.2))] (.I c.1),.n 4] rfl ⟨tt_,(Qu _ t)⟩ ?_
 obtain⟨u,w,h⟩:=Qc h
 replace h:Qb6 c u=some r:=h
 refine AK.meetX (fun σ=>σ=⟨[(0,.loc 607 0 0),(1,.clo (.func 71) [] []),(5,.I c.1)],[(607,.var (Qb u))]⟩) ?_ ?_
 ·replace h:=w
  refine tg_ hC [.n 7] rfl ?_
  refine bg_ h (fun k h=>Qa hC [.S 15 (.b true),.n 6,.O 607 (.var (Qb (Qe.mk c.2.b true))),.n 1,.K [0,1,5] [607]] rfl ⟨(tc_ k),rfl⟩ ?_) fun k h=>Qa hC [.S 15 (.b false),.n 6,.O 607 (.var (Qb (Qe.mk c.2.b (decide (c.1<0))))),.n 1,.K [0,1,5] [607]] rfl ⟨(tc_ k),rfl⟩ ?_
  ·cases h
   exact AK.met rfl
  cases h
  exact AK.met rfl
 rintro σ rfl
 replace h:Qb6 c u=some r:=h
 refine Qa hC [.n 13,.adopt 6 33 11,.O 33 (.arr 11 (([]:List Qk).map Qd)),.S 6 (.own 33 ([]:List Qk).length),.K [0,1,5,6,7] [33,607]] rfl ⟨⟨tt_,rfl⟩,(congrArg (fun n=>V.own 33 n) (by simp))⟩ ?_
 obtain⟨x,l,h⟩:=Qc h
 refine AK.loop (body:=(fun st=>QdF c st.1 st.2.1 st.2.2)) (fun st σ=>σ=⟨[(0,.loc 607 0 0),(1,.clo (.func 71) [] []),(5,.I c.1),(6,.own 33 st.2.2.length),(7,.I st.1)],[(33,.arr 11 (st.2.2.map Qd)),(607,.var (Qb st.2.1))]⟩) (fun q e σ=>e=.exit 0∧σ=⟨[(6,.own 33 q.1.length)],[(33,.arr 11 (q.1.map Qd)),(607,.var (Qb q.2))]⟩) l rfl ?_ ?_
 ·rintro ⟨m,i,j⟩ o σ rfl h
  refine tg_ hC [.n 2] rfl ?_
  refine AK.meetX (fun σ=>σ=⟨[(0,.loc 607 0 0),(1,.clo (.func 71) [] []),(5,.I c.1),(6,.own 33 j.length),(7,.I m),(30,.b ((decide (m<c.1))&&(!i.bad)))],[(33,.arr 11 (j.map Qd)),(607,.var (Qb i))]⟩) ?_ ?_
  ·refine tg_ hC [.n 5] rfl ?_
   rcases QbM (decide (m<c.1))with a | a
   ·refine Qa hC [.S 24 (.b true),.n 7,.S 30 (.b ((decide (m<c.1))&&(!i.bad))),.K [0,1,5,6,7,30] [33,607]] rfl ⟨(tc_ a),(congrArg V.b (Qid a rfl))⟩ ?_
    exact AK.met rfl
   refine Qa hC [.S 24 (.b false),.n 7,.S 30 (.b ((decide (m<c.1))&&(!i.bad))),.K [0,1,5,6,7,30] [33,607]] rfl ⟨(tc_ a),(congrArg V.b (Qie a rfl))⟩ ?_
   exact AK.met rfl
  rintro σ rfl
  refine tg_ hC [.n 1] rfl ?_
  rcases QP h with⟨f,h⟩|⟨f,h⟩
  ·obtain⟨g,p,h⟩:=Qc h
   obtain⟨s,h⟩:=Qb5 h
   refine Qa hC [.T,.n 8,.cm (.clo) [(607,607)] [(607,607)] [] [.d] [(607,.var (Qb g.2))] (.agg (Qd g.1)),.v (.bd []) [] (.sl 11 (([g.1]:List Qk).map Qd)),.app ((j++([g.1]:List Qk)).map Qd) (j++([g.1]:List Qk)).length,.n 9,.K [0,1,5,6,7] [33,607]] rfl ⟨⟨⟨⟨tt_,f⟩,(QiM _ p)⟩,rfl⟩,⟨Qj,Qc6 s Qj,QbY,Qeg Qj⟩⟩ ?_
   cases h
   exact QaF rfl rfl
  refine Qa hC [.F,.n 2,.K [6] [33,607]] rfl ⟨tt_,f⟩ ?_
  cases h
  exact QaC rfl (an_ rfl rfl)
 obtain⟨y,z⟩:=x
 replace h:QdG y z=some r:=h
 rintro e σ ⟨rfl,rfl⟩
 refine tg_ hC [.n 9,.K [4] [33,607],.ren 33 600] rfl ?_
 cases h
 exact d1_ rfl rfl ⟨rfl,rfl,tt_⟩
def Qd3 (a:Qe)(c:QS):Option (Int×QS):=
 bif (a.bad||(decide (0<(a.b.length:Int))))then
 some (4,(QS.mk ([]:QMk) ([]:(List Qk)) 0 0))
 else
 some (0,c)
theorem Qgj (a e){r}(h:Qd3 a e=some r):Qf prog 72 [.loc 607 0 0,.agg (Qs e)] [(607,.var (Qb a))] (Qp (.tup [.agg (Qs r.2),.I r.1]) [(607,.var (Qb a))]):=by
 refine Qf.walk 21 func72 rfl rfl rfl fun C hC=>?_
 refine tg_ hC [.n 9] rfl ?_
 refine AK.meetX (fun σ=>σ=⟨[(3,.loc 3 0 0),(4,.loc 4 0 0),(18,.b (a.bad||(decide (0<(a.b.length:Int)))))],[(3,.var (Qs e)),(4,.var [.lit (.slice none 0 0),.lit (.slice none 0 0),.I 0,.I 0]),(607,.var (Qb a))]⟩) ?_ ?_
 ·refine tg_ hC [.n 6] rfl ?_
  rcases QbM a.bad with c | c
  ·refine Qa hC [.S 11 (.b true),.n 8,.S 18 (.b (a.bad||(decide (0<(a.b.length:Int))))),.K [3,4,18] [3,4,607]] rfl ⟨(tc_ c),(congrArg V.b (orT c rfl))⟩ ?_
   exact AK.met rfl
  refine Qa hC [.S 11 (.b false),.n 4,.o (.ln a.b.length),.n 3,.S 18 (.b (a.bad||(decide (0<(a.b.length:Int))))),.K [3,4,18] [3,4,607]] rfl ⟨⟨(tc_ c),Qj⟩,(congrArg V.b (orF c rfl))⟩ ?_
  exact AK.met rfl
 rintro σ rfl
 refine tg_ hC [.n 1] rfl ?_
 refine bg_ h (fun d h=>Qa hC [.T,.n 7,.v .no [some 1,some 11,none,none] (.agg (Qs (QS.mk ([]:QMk) ([]:(List Qk)) 0 0))),.n 1,.O 4 (.var (Qs (QS.mk ([]:QMk) ([]:(List Qk)) 0 0))),.n 5,.K [4,5] [4,607]] rfl ⟨⟨⟨tt_,d⟩,rfl⟩,rfl⟩ ?_) fun d h=>Qa hC [.F,.n 4,.v .no [] (.agg (Qs e)),.n 1,.O 4 (.var (Qs e)),.n 4,.K [4,5] [4,607]] rfl ⟨⟨⟨tt_,d⟩,rfl⟩,rfl⟩ ?_
 ·cases h
  exact AK.done (ex_ [_,_] (an_ (an_ (ex_ _ (ex_ _ (an_ rfl (an_ rfl (Or.inl (an_ (Ql.ag rfl) (an_ (Ql.sz rfl) rfl))))))) (an_ rfl tt_)) (QaJ ⟨rfl,tt_⟩)))
 cases h
 exact AK.done (ex_ [_,_] (an_ (an_ (ex_ _ (ex_ _ (an_ rfl (an_ rfl (Or.inl (an_ (Ql.ag rfl) (an_ (Ql.sz rfl) rfl))))))) (an_ rfl tt_)) (QaJ ⟨rfl,tt_⟩)))
def QfP (e:(List Int)):Option (Int×QS):=
 (Qd0 (Qe.mk e false) 0 0).bind fun a=>
 (QeV a.1).bind fun b=>
 (Qez b.2).bind fun c=>
 (Qd3 c.2 (QS.mk b.1 c.1 a.2.Next a.2.Now)).bind fun d=>
 some (d.1,d.2)
theorem QhP (e){r}(h:QfP e=some r):Qf prog 30 [.sl 1 (e.map Qi)] [] (Qp (.tup [.agg (Qs r.2),.I r.1]) []):=by
 refine Qf.walk 25 func30 rfl rfl rfl fun C hC=>?_
 obtain⟨a,f,h⟩:=Qc h
 obtain⟨b,g,h⟩:=Qc h
 obtain⟨c,i,h⟩:=Qc h
 obtain⟨j,k,h⟩:=Qc h
 refine Qa hC [.n 9,.v .no [] (.agg (Qb (Qe.mk e false))),.n 14,.o (.any (.own 12 2) (some (.var [.loc 5 0 2,.loc 5 0 3]))),.cm (.fn) [(607,8),(608,12),(609,5)] [(8,607),(12,608),(5,609)] [] [.d,.d] [(607,.var (Qb a.1)),(608,.var [.loc 609 0 2,.loc 609 0 3]),(609,.var (Qs a.2))] (.tup []),.n 5,.cm (.fn) [(607,8)] [(15,600),(8,607)] [] [.d,.d] [(600,.arr 1 (b.1.map QG)),(607,.var (Qb b.2))] (.own 600 b.1.length),.n 2,.O 5 (.var [.own 15 b.1.length,.sl 11 (a.2.Items.map Qd),.I a.2.Next,.I a.2.Now]),.n 5,.cm (.fn) [(607,8)] [(18,600),(8,607)] [] [.d,.d] [(600,.arr 11 (c.1.map Qd)),(607,.var (Qb c.2))] (.own 600 c.1.length),.n 2,.O 5 (.var [.own 15 b.1.length,.own 18 c.1.length,.I a.2.Next,.I a.2.Now]),.n 6,.frz 15 (b.1.map QG) [15,21] [5],.frz 18 (c.1.map Qd) [18,21] [5],.cm (.fn) [(607,8)] [(8,607)] [] [.d,.d] [(607,.var (Qb c.2))] (.tup [.agg (Qs j.2),.I j.1]),.n 3,.O 2 (.var (Qs j.2)),.n 4,.K [2,3] [2]] rfl ⟨⟨⟨⟨⟨⟨⟨⟨⟨⟨⟨tt_,rfl⟩,(fun σ l m hf=>Stp.buildAny rfl rfl (Qo hC.n rfl) (Ql.es rfl) Qix rfl (by decide) (by decide) (Qb3 l rfl) rfl rfl (hf rfl))⟩,(Qgg _ _ _ f)⟩,(QgP _ g)⟩,rfl⟩,(QgC _ i)⟩,rfl⟩,⟨⟨⟨tt_,(Qb4 Qj)⟩,⟨(Qb4 Qj),⟨tt_,tt_⟩⟩⟩,⟨(Qb4 Qj),⟨tt_,tt_⟩⟩⟩⟩,⟨⟨⟨tt_,(Qb4 Qj)⟩,⟨(Qb4 Qj),tt_⟩⟩,⟨(Qb4 Qj),tt_⟩⟩⟩,(Qgj _ _ k)⟩,rfl⟩ ?_
 cases h
 exact AK.done (ex_ [_,_] (an_ (an_ (ex_ _ (ex_ _ (an_ rfl (an_ rfl (Or.inl (an_ (Ql.ag rfl) (an_ (Ql.sz rfl) rfl))))))) (an_ rfl tt_)) (QaJ tt_)))
def QhQ (a:Qk)(b:Int):Option Bool:=
 some (a.Id==b)
theorem Qjs (c a){r}(h:QhQ c a=some r):Qf prog 43 [.agg (Qd c),.loc 607 0 0] [(607,.var (Qq a))] (Qp (.b r) [(607,.var (Qq a))]):=by
 refine Qf.walk 8 func43 rfl rfl rfl fun C hC=>?_
 refine tg_ hC [.n 16] rfl ?_
 cases h
 exact d1_ rfl rfl ⟨rfl,tt_⟩
def Qa0 (c:(List Qk))(d:Int)(a:Int):Option (Int⊕(Int⊕Unit)):=
 bif (decide (a<(c.length:Int)))then
 (idx c a).bind fun e=>
 (QhQ e d).bind fun b=>
 bif b then
 some (.inr (.inl a))
 else
 some (.inl (w64 (a+1)))
 else
 some (.inr (.inr ()))
def Qa1 (a:Int):Option Int:=
 some a
def Qa2 : Option Int:=
 some (-1)
def Qbf (a:(List Qk))(b:Int):Option Int:=
 (QU (fun st=>Qa0 a b st) 0).bind (Sum.elim (fun q=>Qa1 q) (fun q=>Qa2))
theorem QcE (g c){r}(h:Qbf g c=some r):Qf prog 37 [.sl 11 (g.map Qd),.clo (.func 43) [] [.loc 607 0 0]] [(607,.var (Qq c))] (Qp (.I r) [(607,.var (Qq c))]):=by
 refine Qf.walk 19 func37 rfl rfl rfl fun C hC=>?_
 refine Qa hC [.n 9,.o (.ln g.length),.n 4,.K [0,1,7,8] [607]] rfl ⟨tt_,Qj⟩ ?_
 obtain⟨k,i,h⟩:=Qc h
 refine AK.loop (body:=(fun st=>Qa0 g c st)) (fun st σ=>σ=⟨[(0,.sl 11 (g.map Qd)),(1,.clo (.func 43) [] [.loc 607 0 0]),(7,.I (g.length:Int)),(8,.I st)],[(607,.var (Qq c))]⟩) (Sum.elim (fun q e σ=>e=.ret∧σ=⟨[(4,.I q)],[(607,.var (Qq c))]⟩) (fun q e σ=>e=.exit 0∧σ=⟨[],[(607,.var (Qq c))]⟩)) i rfl ?_ ?_
 ·rintro t o σ rfl h
  refine tg_ hC [.n 6] rfl ?_
  rcases QP h with⟨f,h⟩|⟨f,h⟩
  ·obtain⟨p,l,h⟩:=Qc h
   obtain⟨m,j,h⟩:=Qc h
   refine Qa hC [.T,.n 15,.o (.row (Qd p)),.v .no [] (.agg (Qd p)),.cm (.clo) [(607,607)] [(607,607)] [] [.d,.d] [(607,.var (Qq c))] (.b m),.n 2] rfl ⟨⟨⟨⟨tt_,f⟩,(Qan l)⟩,rfl⟩,(Qjs _ _ j)⟩ ?_
   refine bg_ h (fun a h=>Qa hC [.T,.n 9,.K [4] [607]] rfl ⟨tt_,a⟩ ?_) fun a h=>Qa hC [.F,.n 7,.K [0,1,7,8] [607]] rfl ⟨tt_,a⟩ ?_
   ·cases h
    exact QfU rfl (an_ rfl rfl)
   cases h
   exact QaF rfl rfl
  refine Qa hC [.F,.n 2,.K [] [607]] rfl ⟨tt_,f⟩ ?_
  cases h
  exact QaC rfl (an_ rfl rfl)
 rcases k with(s | _)
 ·replace h:Qa1 s=some r:=h
  rintro e σ ⟨rfl,rfl⟩
  refine tg_ hC [.n 2] rfl ?_
  cases h
  exact d1_ rfl rfl ⟨rfl,tt_⟩
 replace h:Qa2=some r:=h
 rintro e σ ⟨rfl,rfl⟩
 refine tg_ hC [.n 8] rfl ?_
 cases h
 exact d1_ rfl rfl ⟨rfl,tt_⟩
def QgD (b:(List Qk))(a:Int):Option Int:=
 (Qbf b a).bind fun c=>
 some c
theorem Qha (c a){r}(h:QgD c a=some r):Qf prog 16 [.sl 11 (c.map Qd),.I a] [] (Qp (.I r) []):=by
 refine Qf.walk 8 func16 rfl rfl rfl fun C hC=>?_
 obtain⟨e,b,h⟩:=Qc h
 refine Qa hC [.n 10,.cm (.fn) [(607,3)] [(3,607)] [] [.d,.d] [(607,.var (Qq a))] (.I e),.n 4] rfl ⟨tt_,(QcE _ _ b)⟩ ?_
 cases h
 exact d1_ rfl rfl tt_
def Qjy  : Option ((List (Int×(Option Nat)))×(List Qg)):=
 some (([]:(List (Int×(Option Nat)))),([]:List Qg))
theorem Qkx (gA:Nat→Nat)  {r:((List (Int×(Option Nat)))×(List Qg))}(h:Qjy  = some r):Qf prog 44 [] [] (Qp (.loc 3 0 0) [(1,.map (QK V.I (QO gA) r.1)),(3,.var [.lit (.slice none 0 0),.map 1]),(601,.tbl gA 3 (r.2.map Qh))]):=by
 refine Qf.walk 4 func44 rfl rfl rfl fun C hC=>?_
 refine tg_ hC [.n 7] rfl ?_
 refine AK.newTbl 601 3 gA rfl rfl ?_
 refine Qa hC [.O 601 (.tbl gA 3 (([]:List Qg).map Qh)),.n 1,.O 1 (.map (QK V.I (QO gA) ([]:(List (Int×(Option Nat)))))),.v .no [] (.agg [.lit (.slice none 0 0),.map 1]),.n 5] rfl ⟨⟨⟨tt_,rfl⟩,rfl⟩,rfl⟩ ?_
 cases h
 exact d1_ rfl rfl ⟨rfl,rfl,rfl,tt_⟩
def QdU (a:(List (Option Nat)))(b:(List (Int×(Option Nat))))(c:(List Qg)):Option Int:=
 some (a.length:Int)
theorem QeW (gA:Nat→Nat)(a:(List (Option Nat)))(b:(List (Int×(Option Nat))))(c:(List Qg)){r:Int}(h:QdU a b c=some r):Qf prog 84 [.loc 607 0 0] [(607,.var [.own 605 a.length,.map 608]),(605,.arr 1 (a.map (QA gA))),(608,.map (QK V.I (QO gA) b)),(609,.tbl gA 3 (c.map Qh))] (Qp (.I r) [(605,.arr 1 (a.map (QA gA))),(607,.var [.own 605 a.length,.map 608]),(608,.map (QK V.I (QO gA) b)),(609,.tbl gA 3 (c.map Qh))]):=by
 refine Qf.walk 8 func84 rfl rfl rfl fun C hC=>?_
 refine tg_ hC [.n 16] rfl ?_
 cases h
 exact d1_ rfl rfl ⟨rfl,rfl,rfl,rfl,tt_⟩
def QeX (a:(List (Option Nat)))(f:(List (Int×(Option Nat))))(b:(Option Nat))(c:(List Qg)):Option ((List (Option Nat))×(List Qg)):=
 (b).bind fun d=>
 (c[d]?).bind fun e=>
 (chk (decide (a.length+([b]:List (Option Nat)).length≤4294967296))).bind fun _=>
 some ((a++([b]:List (Option Nat))),(c.set d (Qg.mk e.id e.at_ (a.length:Int))))
theorem QgQ (gA:Nat→Nat)(a:(List (Option Nat)))(d:(List (Int×(Option Nat))))(c:(Option Nat))(e:(List Qg)){r:((List (Option Nat))×(List Qg))}(h:QeX a d c e=some r):Qf prog 128 [.loc 607 0 0,.ifc 116 (QO gA c)] [(607,.var [.own 605 a.length,.map 608]),(605,.arr 1 (a.map (QA gA))),(608,.map (QK V.I (QO gA) d)),(609,.tbl gA 3 (e.map Qh))] (Qp (.tup []) [(605,.arr 1 (r.1.map (QA gA))),(607,.var [.own 605 r.1.length,.map 608]),(608,.map (QK V.I (QO gA) d)),(609,.tbl gA 3 (r.2.map Qh))]):=by
 refine Qf.walk 22 func128 rfl rfl rfl fun C hC=>?_
 obtain⟨f,g,h⟩:=Qc h
 obtain⟨l,i,h⟩:=Qc h
 obtain⟨j,h⟩:=Qb5 h
 refine Qa hC [.n 14,.o (.any (Qaw gA 0 f) none),.o (.any (Qaw gA 2 f) none),.x (fun σ=>σ.set 609 (.tbl gA 3 ((e.set f (Qg.mk l.id l.at_ (a.length:Int))).map Qh))),.n 8,.v (.bd []) [] (.sl 1 (([c]:List (Option Nat)).map (QA gA))),.app ((a++([c]:List (Option Nat))).map (QA gA)) (a++([c]:List (Option Nat))).length,.n 2,.O 607 (.var [.own 605 (a++([c]:List (Option Nat))).length,.map 608]),.n 1,.K [] [605,607,608,609]] rfl ⟨⟨⟨⟨⟨⟨tt_,(fun σ k m _=>Stp.nilCheckP rfl rfl (Qo hC.n rfl) (k _ _ rfl) g)⟩,(fun σ k m _=>Stp.fieldP rfl rfl (Qo hC.n rfl) (k _ _ rfl) (Ql.fo rfl rfl) rfl)⟩,(Stp.storeP (b:=609) rfl rfl rfl rfl (QX i) rfl rfl rfl rfl (Ql.sz rfl) (QiY rfl))⟩,rfl⟩,⟨Qj,Qc6 j Qj,QbY,Qeg Qj⟩⟩,rfl⟩ ?_
 cases h
 refine AK.done ?_
 exact ex_ [] (an_ tt_ (QaJ ⟨rfl,rfl,rfl,rfl,tt_⟩))
def Qdi (a:(List (Option Nat)))(b:(List Qg)):Option Int:=
 some (a.length:Int)
theorem Qd4 (gA:Nat→Nat)(a:(List (Option Nat)))(b:(List Qg)){r:Int}(h:Qdi a b=some r):Qf prog 124 [.own 607 a.length] [(607,.arr 1 (a.map (QA gA))),(608,.tbl gA 3 (b.map Qh))] (Qp (.I r) [(607,.arr 1 (a.map (QA gA))),(608,.tbl gA 3 (b.map Qh))]):=by
 refine Qf.walk 5 func124 rfl rfl rfl fun C hC=>?_
 refine tg_ hC [.n 13] rfl ?_
 cases h
 exact d1_ rfl rfl ⟨rfl,rfl,tt_⟩
def QgR (a:(List (Option Nat)))(c:Int)(b:(List Qg))(d:Int):Option Bool:=
 (idx a c).bind fun u=>
 (u).bind fun v=>
 (b[v]?).bind fun e=>
 (idx a d).bind fun f=>
 (f).bind fun g=>
 (b[g]?).bind fun h=>
 bif (decide (e.at_<h.at_))then
 some true
 else
 (idx a c).bind fun i=>
 (i).bind fun j=>
 (b[j]?).bind fun k=>
 (idx a d).bind fun l=>
 (l).bind fun m=>
 (b[m]?).bind fun n=>
 bif (k.at_==n.at_)then
 (idx a c).bind fun o=>
 (o).bind fun p=>
 (b[p]?).bind fun q=>
 (idx a d).bind fun r=>
 (r).bind fun s=>
 (b[s]?).bind fun t=>
 some (decide (q.id<t.id))
 else
 some false
def Qcg (a:Bool):Option Bool:=
 some a
def QbQ (a:(List (Option Nat)))(b:Int)(c:Int)(d:(List Qg)):Option Bool:=
 (QgR a b d c).bind (fun e=>Qcg e)
theorem Qch (gA:Nat→Nat)(H:(List (Option Nat)))(i2:Int)(k3:Int)(Y:(List Qg)){r:Bool}(h:QbQ H i2 k3 Y=some r):Qf prog 125 [.own 607 H.length,.I i2,.I k3] [(607,.arr 1 (H.map (QA gA))),(608,.tbl gA 3 (Y.map Qh))] (Qp (.b r) [(607,.arr 1 (H.map (QA gA))),(608,.tbl gA 3 (Y.map Qh))]):=by
 refine Qf.walk 56 func125 rfl rfl rfl fun C hC=>?_
 refine tg_ hC [.n 6] rfl ?_
 obtain⟨Z,a0,h⟩:=Qc h
 replace h:Qcg Z=some r:=h
 refine AK.meetX (fun σ=>σ=⟨[(6,.b Z)],[(607,.arr 1 (H.map (QA gA))),(608,.tbl gA 3 (Y.map Qh))]⟩) ?_ ?_
 ·replace h:=a0
  obtain⟨e8,j,h⟩:=Qc h
  obtain⟨G,B,h⟩:=Qc h
  obtain⟨D,l,h⟩:=Qc h
  obtain⟨E,e,h⟩:=Qc h
  obtain⟨k,o,h⟩:=Qc h
  obtain⟨F,p,h⟩:=Qc h
  refine tg_ hC [.K [0,1,2,6] [607,608]] rfl ?_
  rcases QP h with⟨f,h⟩|⟨f,h⟩
  ·refine AK.draw2 Ql hC mixed [.N,.N,.N,.a (.row ((QA gA) e8)) none false,.a (.any (Qaw gA 0 G) none) none false,.a (.any (Qaw gA 1 G) none) none false,.a (.any (.I D.at_) none) none false,.N,.N,.N,.a (.row ((QA gA) E)) none false,.a (.any (Qaw gA 0 k) none) none false,.a (.any (Qaw gA 1 k) none) none false,.a (.any (.I F.at_) none) none false,.N,.a .no (some ([],.b true)) false,.N,.N,.N,.N,.N,.N,.N,.N,.N,.N,.N,.N,.N,.N,.N,.N,.N,.N,.N,.N,.N,.N,.N,.N,.N,.N,.N,.N,.N,.N,.N,.N,.N,.m .s] [] [] [6] [607,608] rfl rfl rfl ⟨⟨⟨⟨⟨⟨⟨⟨⟨⟨⟨tt_,(Qbk j rfl)⟩,(QX (Qbv j).2)⟩,(fun σ c d _=>Stp.nilCheckP rfl rfl (Qo hC.n rfl) (c _ _ rfl) B)⟩,(fun σ c d _=>Stp.fieldP rfl rfl (Qo hC.n rfl) (c _ _ rfl) (Ql.fo rfl rfl) rfl)⟩,(fun σ c d _=>Stp.loadP (b:=608) rfl rfl (Qo hC.n rfl) (c _ _ rfl) (d _ _ rfl) (Ql.ag rfl) (QX l) rfl)⟩,(Qbk e rfl)⟩,(QX (Qbv e).2)⟩,(fun σ c d _=>Stp.nilCheckP rfl rfl (Qo hC.n rfl) (c _ _ rfl) o)⟩,(fun σ c d _=>Stp.fieldP rfl rfl (Qo hC.n rfl) (c _ _ rfl) (Ql.fo rfl rfl) rfl)⟩,(fun σ c d _=>Stp.loadP (b:=608) rfl rfl (Qo hC.n rfl) (c _ _ rfl) (d _ _ rfl) (Ql.ag rfl) (QX p) rfl)⟩,(cb_ f)⟩ rfl (by kernel_rfl) rfl rfl rfl ?_
   refine tg_ hC [.K [6] [607,608]] rfl ?_
   cases h
   exact AK.met rfl
  obtain⟨J,g,h⟩:=Qc h
  obtain⟨t,v,h⟩:=Qc h
  obtain⟨L,w,h⟩:=Qc h
  obtain⟨M,i,h⟩:=Qc h
  obtain⟨u,x,h⟩:=Qc h
  obtain⟨O,y,h⟩:=Qc h
  rcases QP h with⟨q,h⟩|⟨q,h⟩
  ·obtain⟨a1,z,h⟩:=Qc h
   obtain⟨P,S,h⟩:=Qc h
   obtain⟨a2,T,h⟩:=Qc h
   obtain⟨a3,A,h⟩:=Qc h
   obtain⟨U,W,h⟩:=Qc h
   obtain⟨a4,X,h⟩:=Qc h
   refine AK.draw2 Ql hC mixed [.N,.N,.N,.a (.row ((QA gA) e8)) none false,.a (.any (Qaw gA 0 G) none) none false,.a (.any (Qaw gA 1 G) none) none false,.a (.any (.I D.at_) none) none false,.N,.N,.N,.a (.row ((QA gA) E)) none false,.a (.any (Qaw gA 0 k) none) none false,.a (.any (Qaw gA 1 k) none) none false,.a (.any (.I F.at_) none) none false,.N,.a .no (some ([],.b false)) false,.N,.N,.N,.a (.row ((QA gA) J)) none false,.a (.any (Qaw gA 0 t) none) none false,.a (.any (Qaw gA 1 t) none) none false,.a (.any (.I L.at_) none) none false,.N,.N,.N,.a (.row ((QA gA) M)) none false,.a (.any (Qaw gA 0 u) none) none false,.a (.any (Qaw gA 1 u) none) none false,.a (.any (.I O.at_) none) none false,.N,.a .no (some ([],.b true)) false,.N,.N,.N,.a (.row ((QA gA) a1)) none false,.a (.any (Qaw gA 0 P) none) none false,.a (.any (Qaw gA 0 P) none) none false,.a (.any (.I a2.id) none) none false,.N,.N,.N,.a (.row ((QA gA) a3)) none false,.a (.any (Qaw gA 0 U) none) none false,.a (.any (Qaw gA 0 U) none) none false,.a (.any (.I a4.id) none) none false,.N,.N,.N,.m .s] [] [] [6] [607,608] rfl rfl rfl ⟨⟨⟨⟨⟨⟨⟨⟨⟨⟨⟨⟨⟨⟨⟨⟨⟨⟨⟨⟨⟨⟨⟨⟨⟨⟨⟨⟨⟨⟨⟨⟨tt_,(Qbk j rfl)⟩,(QX (Qbv j).2)⟩,(fun σ c d _=>Stp.nilCheckP rfl rfl (Qo hC.n rfl) (c _ _ rfl) B)⟩,(fun σ c d _=>Stp.fieldP rfl rfl (Qo hC.n rfl) (c _ _ rfl) (Ql.fo rfl rfl) rfl)⟩,(fun σ c d _=>Stp.loadP (b:=608) rfl rfl (Qo hC.n rfl) (c _ _ rfl) (d _ _ rfl) (Ql.ag rfl) (QX l) rfl)⟩,(Qbk e rfl)⟩,(QX (Qbv e).2)⟩,(fun σ c d _=>Stp.nilCheckP rfl rfl (Qo hC.n rfl) (c _ _ rfl) o)⟩,(fun σ c d _=>Stp.fieldP rfl rfl (Qo hC.n rfl) (c _ _ rfl) (Ql.fo rfl rfl) rfl)⟩,(fun σ c d _=>Stp.loadP (b:=608) rfl rfl (Qo hC.n rfl) (c _ _ rfl) (d _ _ rfl) (Ql.ag rfl) (QX p) rfl)⟩,(cb_ f)⟩,(Qbk g rfl)⟩,(QX (Qbv g).2)⟩,(fun σ c d _=>Stp.nilCheckP rfl rfl (Qo hC.n rfl) (c _ _ rfl) v)⟩,(fun σ c d _=>Stp.fieldP rfl rfl (Qo hC.n rfl) (c _ _ rfl) (Ql.fo rfl rfl) rfl)⟩,(fun σ c d _=>Stp.loadP (b:=608) rfl rfl (Qo hC.n rfl) (c _ _ rfl) (d _ _ rfl) (Ql.ag rfl) (QX w) rfl)⟩,(Qbk i rfl)⟩,(QX (Qbv i).2)⟩,(fun σ c d _=>Stp.nilCheckP rfl rfl (Qo hC.n rfl) (c _ _ rfl) x)⟩,(fun σ c d _=>Stp.fieldP rfl rfl (Qo hC.n rfl) (c _ _ rfl) (Ql.fo rfl rfl) rfl)⟩,(fun σ c d _=>Stp.loadP (b:=608) rfl rfl (Qo hC.n rfl) (c _ _ rfl) (d _ _ rfl) (Ql.ag rfl) (QX y) rfl)⟩,(cb_ q)⟩,(Qbk z rfl)⟩,(QX (Qbv z).2)⟩,(fun σ c d _=>Stp.nilCheckP rfl rfl (Qo hC.n rfl) (c _ _ rfl) S)⟩,(fun σ c d _=>Stp.fieldP rfl rfl (Qo hC.n rfl) (c _ _ rfl) (Ql.fo rfl rfl) rfl)⟩,(fun σ c d _=>Stp.loadP (b:=608) rfl rfl (Qo hC.n rfl) (c _ _ rfl) (d _ _ rfl) (Ql.ag rfl) (QX T) rfl)⟩,(Qbk A rfl)⟩,(QX (Qbv A).2)⟩,(fun σ c d _=>Stp.nilCheckP rfl rfl (Qo hC.n rfl) (c _ _ rfl) W)⟩,(fun σ c d _=>Stp.fieldP rfl rfl (Qo hC.n rfl) (c _ _ rfl) (Ql.fo rfl rfl) rfl)⟩,(fun σ c d _=>Stp.loadP (b:=608) rfl rfl (Qo hC.n rfl) (c _ _ rfl) (d _ _ rfl) (Ql.ag rfl) (QX X) rfl)⟩ rfl (by kernel_rfl) rfl rfl rfl ?_
   refine tg_ hC [.K [6] [607,608]] rfl ?_
   cases h
   exact AK.met rfl
  refine AK.draw2 Ql hC mixed [.N,.N,.N,.a (.row ((QA gA) e8)) none false,.a (.any (Qaw gA 0 G) none) none false,.a (.any (Qaw gA 1 G) none) none false,.a (.any (.I D.at_) none) none false,.N,.N,.N,.a (.row ((QA gA) E)) none false,.a (.any (Qaw gA 0 k) none) none false,.a (.any (Qaw gA 1 k) none) none false,.a (.any (.I F.at_) none) none false,.N,.a .no (some ([],.b false)) false,.N,.N,.N,.a (.row ((QA gA) J)) none false,.a (.any (Qaw gA 0 t) none) none false,.a (.any (Qaw gA 1 t) none) none false,.a (.any (.I L.at_) none) none false,.N,.N,.N,.a (.row ((QA gA) M)) none false,.a (.any (Qaw gA 0 u) none) none false,.a (.any (Qaw gA 1 u) none) none false,.a (.any (.I O.at_) none) none false,.N,.a .no (some ([],.b false)) false,.N,.N,.N,.N,.N,.N,.N,.N,.N,.N,.N,.N,.N,.N,.N,.N,.N,.m .s] [] [] [6] [607,608] rfl rfl rfl ⟨⟨⟨⟨⟨⟨⟨⟨⟨⟨⟨⟨⟨⟨⟨⟨⟨⟨⟨⟨⟨⟨tt_,(Qbk j rfl)⟩,(QX (Qbv j).2)⟩,(fun σ c d _=>Stp.nilCheckP rfl rfl (Qo hC.n rfl) (c _ _ rfl) B)⟩,(fun σ c d _=>Stp.fieldP rfl rfl (Qo hC.n rfl) (c _ _ rfl) (Ql.fo rfl rfl) rfl)⟩,(fun σ c d _=>Stp.loadP (b:=608) rfl rfl (Qo hC.n rfl) (c _ _ rfl) (d _ _ rfl) (Ql.ag rfl) (QX l) rfl)⟩,(Qbk e rfl)⟩,(QX (Qbv e).2)⟩,(fun σ c d _=>Stp.nilCheckP rfl rfl (Qo hC.n rfl) (c _ _ rfl) o)⟩,(fun σ c d _=>Stp.fieldP rfl rfl (Qo hC.n rfl) (c _ _ rfl) (Ql.fo rfl rfl) rfl)⟩,(fun σ c d _=>Stp.loadP (b:=608) rfl rfl (Qo hC.n rfl) (c _ _ rfl) (d _ _ rfl) (Ql.ag rfl) (QX p) rfl)⟩,(cb_ f)⟩,(Qbk g rfl)⟩,(QX (Qbv g).2)⟩,(fun σ c d _=>Stp.nilCheckP rfl rfl (Qo hC.n rfl) (c _ _ rfl) v)⟩,(fun σ c d _=>Stp.fieldP rfl rfl (Qo hC.n rfl) (c _ _ rfl) (Ql.fo rfl rfl) rfl)⟩,(fun σ c d _=>Stp.loadP (b:=608) rfl rfl (Qo hC.n rfl) (c _ _ rfl) (d _ _ rfl) (Ql.ag rfl) (QX w) rfl)⟩,(Qbk i rfl)⟩,(QX (Qbv i).2)⟩,(fun σ c d _=>Stp.nilCheckP rfl rfl (Qo hC.n rfl) (c _ _ rfl) x)⟩,(fun σ c d _=>Stp.fieldP rfl rfl (Qo hC.n rfl) (c _ _ rfl) (Ql.fo rfl rfl) rfl)⟩,(fun σ c d _=>Stp.loadP (b:=608) rfl rfl (Qo hC.n rfl) (c _ _ rfl) (d _ _ rfl) (Ql.ag rfl) (QX y) rfl)⟩,(cb_ q)⟩ rfl (by kernel_rfl) rfl rfl rfl ?_
  refine tg_ hC [.K [6] [607,608]] rfl ?_
  cases h
  exact AK.met rfl
 rintro σ rfl
 replace h:Qcg Z=some r:=h
 refine tg_ hC [.n 2] rfl ?_
 cases h
 exact d1_ rfl rfl ⟨rfl,rfl,tt_⟩
def QbR (c:(List (Option Nat)))(a:Int)(d:Int)(i:(List Qg)):Option ((List (Option Nat))×(List Qg)):=
 (idx c d).bind fun h=>
 (idx c a).bind fun j=>
 (idx c a).bind fun n=>
 (idx (c.set a.toNat h) d).bind fun m=>
 (idx ((c.set a.toNat h).set d.toNat j) a).bind fun k=>
 (idx ((c.set a.toNat h).set d.toNat j) d).bind fun l=>
 (k).bind fun e=>
 (i[e]?).bind fun b=>
 (l).bind fun f=>
 ((i.set e (Qg.mk b.id b.at_ a))[f]?).bind fun g=>
 some (((c.set a.toNat h).set d.toNat j),((i.set e (Qg.mk b.id b.at_ a)).set f (Qg.mk g.id g.at_ d)))
theorem Qci (gA:Nat→Nat)(o:(List (Option Nat)))(l:Int)(y:Int)(z:(List Qg)){r:((List (Option Nat))×(List Qg))}(h:QbR o l y z=some r):Qf prog 126 [.own 607 o.length,.I l,.I y] [(607,.arr 1 (o.map (QA gA))),(608,.tbl gA 3 (z.map Qh))] (Qp (.tup []) [(607,.arr 1 (r.1.map (QA gA))),(608,.tbl gA 3 (r.2.map Qh))]):=by
 refine Qf.walk 34 func126 rfl rfl rfl fun C hC=>?_
 obtain⟨A,p,h⟩:=Qc h
 obtain⟨F,q,h⟩:=Qc h
 obtain⟨G,s,h⟩:=Qc h
 obtain⟨B,f,h⟩:=Qc h
 refine tg_ hC [.n 1,.K [0,1,2] [607,608]] rfl ?_
 refine AK.draw2 Ql hC mixed [.N,.N,.a .no none true,.a .no none true,.N,.N,.N,.a (.row ((QA gA) A)) none false,.N,.N,.N,.a (.row ((QA gA) F)) none false,.N,.m (.st ((QA gA) G) ((o.set l.toNat A).map (QA gA))),.N,.m (.st ((QA gA) B) (((o.set l.toNat A).set y.toNat F).map (QA gA)))] [0,1,2] [608] [0,1,2] [607,608] rfl rfl rfl ⟨⟨⟨⟨⟨⟨⟨⟨tt_,(Qbk p rfl)⟩,(QX (Qbv p).2)⟩,(Qbk q rfl)⟩,(QX (Qbv q).2)⟩,(Qbk s rfl)⟩,⟨(QX (Qbv s).2),QiY rfl⟩⟩,(Qbk f (by simp))⟩,⟨(QX (Qbv f).2),QiY rfl⟩⟩ rfl (by kernel_rfl) rfl rfl rfl ?_
 obtain⟨D,g,h⟩:=Qc h
 obtain⟨E,i,h⟩:=Qc h
 obtain⟨d,t,h⟩:=Qc h
 obtain⟨e,u,h⟩:=Qc h
 obtain⟨j,v,h⟩:=Qc h
 obtain⟨w,x,h⟩:=Qc h
 refine tg_ hC [.n 1,.K [0,1,2] [607,608]] rfl ?_
 refine AK.draw2 Ql hC mixed [.N,.N,.N,.a (.row ((QA gA) D)) none false,.N,.N,.N,.a (.row ((QA gA) E)) none false,.N,.a .no none true,.a (.any (Qaw gA 0 d) none) none false,.a (.any (Qaw gA 2 d) none) none false,.m (.any ⟨[],[(608,.tbl gA 3 ((z.set d (Qg.mk e.id e.at_ l)).map Qh))],none⟩),.a (.any (Qaw gA 0 j) none) none false,.a (.any (Qaw gA 2 j) none) none false,.m (.any ⟨[],[(608,.tbl gA 3 (((z.set d (Qg.mk e.id e.at_ l)).set j (Qg.mk w.id w.at_ y)).map Qh))],none⟩)] [0,1,2] [607] [] [607,608] rfl rfl rfl ⟨⟨⟨⟨⟨⟨⟨⟨⟨⟨tt_,(Qbk g (by simp))⟩,(QX (Qbv g).2)⟩,(Qbk i (by simp))⟩,(QX (Qbv i).2)⟩,(fun σ c k _=>Stp.nilCheckP rfl rfl (Qo hC.n rfl) (c _ _ rfl) t)⟩,(fun σ c k _=>Stp.fieldP rfl rfl (Qo hC.n rfl) (c _ _ rfl) (Ql.fo rfl rfl) rfl)⟩,(fun σ c k=>Stp.storeP (b:=608) rfl rfl (c _ _ rfl) (k _ _ rfl) (QX u) rfl (c _ _ rfl) rfl rfl (Ql.sz rfl) (QiY rfl))⟩,(fun σ c k _=>Stp.nilCheckP rfl rfl (Qo hC.n rfl) (c _ _ rfl) v)⟩,(fun σ c k _=>Stp.fieldP rfl rfl (Qo hC.n rfl) (c _ _ rfl) (Ql.fo rfl rfl) rfl)⟩,(fun σ c k=>Stp.storeP (b:=608) rfl rfl (c _ _ rfl) (k _ _ rfl) (QX x) rfl (c _ _ rfl) rfl rfl (Ql.sz rfl) (QiY rfl))⟩ rfl (by kernel_rfl) rfl rfl rfl ?_
 refine tg_ hC [.K [] [607,608]] rfl ?_
 cases h
 refine AK.done ?_
 exact ex_ [] (an_ tt_ (QaJ ⟨rfl,rfl,tt_⟩))
def QhA (a:Int)(b:(List (Option Nat)))(d:(List Qg)):Option Bool:=
 bif ((w64 (Int.tdiv (w64 (a-1)) 2))==a)then
 some true
 else
 (QbQ b a (w64 (Int.tdiv (w64 (a-1)) 2)) d).bind fun c=>
 some (!c)
def Qcu (e:(List Qg))(a:(List (Option Nat)))(c:Int)(d:Bool):Option ((Int×(List Qg)×(List (Option Nat)))⊕((List Qg)×(List (Option Nat)))):=
 bif d then
 some (.inr (e,a))
 else
 (QbR a (w64 (Int.tdiv (w64 (c-1)) 2)) c e).bind fun b=>
 (chk (decide (b.1.length=a.length))).bind fun _=>
 some (.inl ((w64 (Int.tdiv (w64 (c-1)) 2)),b.2,b.1))
def Qd5 (c:Int)(d:(List Qg))(a:(List (Option Nat))):Option ((Int×(List Qg)×(List (Option Nat)))⊕((List Qg)×(List (Option Nat)))):=
 (QhA c a d).bind (fun b=>Qcu d a c b)
def Qd6 (a:(List Qg))(b:(List (Option Nat))):Option ((List (Option Nat))×(List Qg)):=
 some (b,a)
def Qfi (a:(List (Option Nat)))(d:(List (Int×(Option Nat))))(b:Int)(c:(List Qg)):Option ((List (Option Nat))×(List Qg)):=
 (QU (fun st=>Qd5 st.1 st.2.1 st.2.2) (b,c,a)).bind (fun q=>Qd6 q.1 q.2)
theorem QhB (gA:Nat→Nat)(v:(List (Option Nat)))(j:(List (Int×(Option Nat))))(A:Int)(B:(List Qg)){r:((List (Option Nat))×(List Qg))}(h:Qfi v j A B=some r):Qf prog 104 [.ifc 120 (.loc 607 0 0),.I A] [(607,.var [.own 605 v.length,.map 608]),(605,.arr 1 (v.map (QA gA))),(608,.map (QK V.I (QO gA) j)),(609,.tbl gA 3 (B.map Qh))] (Qp (.tup []) [(605,.arr 1 (r.1.map (QA gA))),(607,.var [.own 605 r.1.length,.map 608]),(608,.map (QK V.I (QO gA) j)),(609,.tbl gA 3 (r.2.map Qh))]):=by
 refine Qf.walk 23 func104 rfl rfl rfl fun C hC=>?_
 refine tg_ hC [.n 1,.K [0,1] [605,607,608,609]] rfl ?_
 obtain⟨w,k,h⟩:=Qc h
 refine AK.loop (body:=(fun st=>Qd5 st.1 st.2.1 st.2.2)) (fun st σ=>σ=⟨[(0,.ifc 120 (.loc 607 0 0)),(1,.I st.1)],[(605,.arr 1 (st.2.2.map (QA gA))),(607,.var [.own 605 st.2.2.length,.map 608]),(608,.map (QK V.I (QO gA) j)),(609,.tbl gA 3 (st.2.1.map Qh))]⟩) (fun q e σ=>e=.exit 0∧σ=⟨[],[(605,.arr 1 (q.2.map (QA gA))),(607,.var [.own 605 q.2.length,.map 608]),(608,.map (QK V.I (QO gA) j)),(609,.tbl gA 3 (q.1.map Qh))]⟩) k rfl ?_ ?_
 ·rintro ⟨t,u,a⟩ o σ rfl h
  refine Qa hC [.n 11] rfl ⟨tt_,(by decide)⟩ ?_
  obtain⟨g,l,h⟩:=Qc h
  replace h:Qcu u a t g=some o:=h
  refine AK.meetX (fun σ=>σ=⟨[(0,.ifc 120 (.loc 607 0 0)),(1,.I t),(4,.I (w64 (Int.tdiv (w64 (t-1)) 2))),(17,.b g)],[(605,.arr 1 (a.map (QA gA))),(607,.var [.own 605 a.length,.map 608]),(608,.map (QK V.I (QO gA) j)),(609,.tbl gA 3 (u.map Qh))]⟩) ?_ ?_
  ·replace h:=l
   refine tg_ hC [.n 5] rfl ?_
   rcases QP h with⟨c,h⟩|⟨c,h⟩
   ·refine Qa hC [.S 11 (.b true),.n 7,.K [0,1,4,17] [605,607,608,609]] rfl (tc_ c) ?_
    cases h
    exact AK.met rfl
   obtain⟨x,m,h⟩:=Qc h
   refine Qa hC [.S 11 (.b false),.n 3,.cm (.mv 125 113) [(607,605),(608,609)] [(605,607),(609,608)] [] [.d,.d,.d] [(607,.arr 1 (a.map (QA gA))),(608,.tbl gA 3 (u.map Qh))] (.b x),.n 3,.K [0,1,4,17] [605,607,608,609]] rfl ⟨⟨(tc_ c),Qhw⟩,(Qch gA _ _ _ _ m)⟩ ?_
   cases h
   exact AK.met rfl
  rintro σ rfl
  replace h:Qcu u a t g=some o:=h
  refine tg_ hC [.n 1] rfl ?_
  rcases QP h with⟨f,h⟩|⟨f,h⟩
  ·refine Qa hC [.T,.n 3,.K [] [605,607,608,609]] rfl ⟨tt_,f⟩ ?_
   cases h
   exact QaC rfl (an_ rfl rfl)
  obtain⟨i,p,h⟩:=Qc h
  obtain⟨s,h⟩:=Qb5 h
  refine Qa hC [.F,.n 7,.cm (.mv 126 113) [(607,605),(608,609)] [(605,607),(609,608)] [] [.d,.d,.d] [(607,.arr 1 (i.1.map (QA gA))),(608,.tbl gA 3 (i.2.map Qh))] (.tup []),.O 607 (.var [.own 605 i.1.length,.map 608]),.n 7,.K [0,1] [605,607,608,609]] rfl ⟨⟨⟨⟨tt_,f⟩,Qhx⟩,(Qci gA _ _ _ _ p)⟩,(by simp [QbC s])⟩ ?_
  cases h
  exact QaF rfl rfl
 obtain⟨y,z⟩:=w
 replace h:Qd6 y z=some r:=h
 rintro e σ ⟨rfl,rfl⟩
 refine tg_ hC [.n 1,.K [] [605,607,608,609]] rfl ?_
 cases h
 refine AK.done ?_
 exact ex_ [] (an_ tt_ (QaJ ⟨rfl,rfl,rfl,rfl,tt_⟩))
def QeA (d:(List (Option Nat)))(b:(List (Int×(Option Nat))))(e:(Option Nat))(f:(List Qg)):Option ((List (Option Nat))×(List Qg)):=
 (QeX d b e f).bind fun a=>
 (Qdi a.1 a.2).bind fun g=>
 (Qfi a.1 b (w64 (g-1)) a.2).bind fun c=>
 some (c.1,c.2)
theorem QgE (gA:Nat→Nat)(c:(List (Option Nat)))(a:(List (Int×(Option Nat))))(j:(Option Nat))(k:(List Qg)){r:((List (Option Nat))×(List Qg))}(h:QeA c a j k=some r):Qf prog 85 [.ifc 120 (.loc 607 0 0),.ifc 116 (QO gA j)] [(607,.var [.own 605 c.length,.map 608]),(605,.arr 1 (c.map (QA gA))),(608,.map (QK V.I (QO gA) a)),(609,.tbl gA 3 (k.map Qh))] (Qp (.tup []) [(605,.arr 1 (r.1.map (QA gA))),(607,.var [.own 605 r.1.length,.map 608]),(608,.map (QK V.I (QO gA) a)),(609,.tbl gA 3 (r.2.map Qh))]):=by
 refine Qf.walk 12 func85 rfl rfl rfl fun C hC=>?_
 obtain⟨b,e,h⟩:=Qc h
 obtain⟨l,f,h⟩:=Qc h
 obtain⟨g,i,h⟩:=Qc h
 refine Qa hC [.n 4,.cm (.me 128) [(607,607),(605,605),(608,608),(609,609)] [(605,605),(607,607),(608,608),(609,609)] [605] [.d,.d] [(605,.arr 1 (b.1.map (QA gA))),(607,.var [.own 605 b.1.length,.map 608]),(608,.map (QK V.I (QO gA) a)),(609,.tbl gA 3 (b.2.map Qh))] (.tup []),.n 5,.cm (.mv 124 113) [(607,605),(608,609)] [(605,607),(609,608)] [] [.d] [(607,.arr 1 (b.1.map (QA gA))),(608,.tbl gA 3 (b.2.map Qh))] (.I l),.n 1,.cm (.fn) [(607,607),(605,605),(608,608),(609,609)] [(605,605),(607,607),(608,608),(609,609)] [605] [.d,.d] [(605,.arr 1 (g.1.map (QA gA))),(607,.var [.own 605 g.1.length,.map 608]),(608,.map (QK V.I (QO gA) a)),(609,.tbl gA 3 (g.2.map Qh))] (.tup []),.n 1,.K [] [605,607,608,609]] rfl ⟨⟨⟨⟨⟨tt_,QlV⟩,(QgQ gA _ _ _ _ e)⟩,Qj9⟩,(Qd4 gA _ _ f)⟩,(QhB gA _ _ _ _ i)⟩ ?_
 cases h
 refine AK.done ?_
 exact ex_ [] (an_ tt_ (QaJ ⟨rfl,rfl,rfl,rfl,tt_⟩))
def QeY (d:(List (Option Nat)))(c:(List (Int×(Option Nat))))(a:Int)(at_4:Int)(b:(List Qg)):Option (Int×(List (Option Nat))×(List Qg)×(List (Int×(Option Nat)))):=
 bif ((QbJ c a).getD none).isSome then
 some (5,d,b,c)
 else
 (QdU d c b).bind fun f=>
 bif (f==4096)then
 some (2,d,b,c)
 else
 (chk (d.all (okP b.length))).bind fun _=>
 (chk (c.all (fun q=>okP b.length q.2))).bind fun _=>
 (QeA d (Qem ltI c a (some b.length)) (some b.length) (b++[(Qg.mk a at_4 0)])).bind fun e=>
 some (0,e.1,e.2,(Qem ltI c a (some b.length)))
theorem QgS (gA:Nat→Nat)(s:(List (Option Nat)))(i:(List (Int×(Option Nat))))(a:Int)(at_4:Int)(j:(List Qg)){r:(Int×(List (Option Nat))×(List Qg)×(List (Int×(Option Nat))))}(h:QeY s i a at_4 j=some r):Qf prog 45 [.loc 607 0 0,.I a,.I at_4] [(607,.var [.own 605 s.length,.map 608]),(605,.arr 1 (s.map (QA gA))),(608,.map (QK V.I (QO gA) i)),(606,.tbl gA 3 (j.map Qh))] (fun v hs=>∃gA:Nat→Nat,True∧Qp (.I r.1) [(605,.arr 1 (r.2.1.map (QA gA))),(606,.tbl gA 3 (r.2.2.1.map Qh)),(607,.var [.own 605 r.2.1.length,.map 608]),(608,.map (QK V.I (QO gA) r.2.2.2))] v hs):=by
 refine Qf.walk 37 func45 rfl rfl rfl fun C hC=>?_
 refine Qa hC [.n 14,.o (.any (QO gA ((QbJ i a).getD none)) none),.o (.any (.b ((QbJ i a).getD none).isSome) none),.n 3] rfl ⟨⟨tt_,(fun σ t D _=>Stp.lookup (e:=V.I) (f:=(QO gA)) (l:=i) (k:=a) (z:=none) rfl rfl (Qo hC.n rfl) (t _ _ rfl) (D _ _ rfl) (t _ _ rfl) QlF QlE QoC rfl)⟩,(fun σ t D _=>Stp.neqNilP rfl rfl (Qo hC.n rfl) (t _ _ rfl) (t _ _ rfl) QoB)⟩ ?_
 rcases QP h with⟨c,h⟩|⟨c,h⟩
 ·refine Qa hC [.T,.n 8,.K [6] [605,606,607,608]] rfl ⟨tt_,c⟩ ?_
  cases h
  exact AK.done (ex_ [_] (an_ (an_ rfl tt_) (ex_ _ (an_ tt_ (QaJ ⟨rfl,rfl,rfl,rfl,tt_⟩)))))
 obtain⟨B,u,h⟩:=Qc h
 refine Qa hC [.F,.n 3,.cm (.fn) [(607,607),(605,605),(608,608),(609,606)] [(605,605),(607,607),(608,608),(606,609)] [605] [.d] [(605,.arr 1 (s.map (QA gA))),(607,.var [.own 605 s.length,.map 608]),(608,.map (QK V.I (QO gA) i)),(609,.tbl gA 3 (j.map Qh))] (.I B),.n 4] rfl ⟨⟨tt_,c⟩,(QeW gA _ _ _ u)⟩ ?_
 rcases QP h with⟨g,h⟩|⟨g,h⟩
 ·refine Qa hC [.T,.n 8,.K [6] [605,606,607,608]] rfl ⟨tt_,g⟩ ?_
  cases h
  exact AK.done (ex_ [_] (an_ (an_ rfl tt_) (ex_ _ (an_ tt_ (QaJ ⟨rfl,rfl,rfl,rfl,tt_⟩)))))
 obtain⟨w,h⟩:=Qb5 h
 obtain⟨y,h⟩:=Qb5 h
 refine Qa hC [.F,.n 7,.v .no [] (.agg (Qh (Qg.mk a at_4 0)))] rfl ⟨⟨tt_,g⟩,rfl⟩ ?_
 refine AK.boxP (b:=606) (n:=j.length) (rsN:=(j++[(Qg.mk a at_4 0)]).map Qh) rfl rfl rfl (Qo hC.n rfl) rfl rfl rfl rfl rfl rfl Qj (QbY (m:=[(Qg.mk a at_4 0)])) fun gA p=>?_
 obtain⟨q,A,h⟩:=Qc h
 refine Qa hC [.O 605 (.arr 1 (s.map (QA gA))),.O 608 (.map (QK V.I (QO gA) i)),.n 11,.x (fun σ=>σ.set 608 (.map (QK V.I (QO gA) (Qem ltI i a (some j.length))))),.n 10,.cm (.fn) [(607,607),(605,605),(608,608),(609,606)] [(605,605),(607,607),(608,608),(606,609)] [605] [.d,.d] [(605,.arr 1 (q.1.map (QA gA))),(607,.var [.own 605 q.1.length,.map 608]),(608,.map (QK V.I (QO gA) (Qem ltI i a (some j.length)))),(609,.tbl gA 3 (q.2.map Qh))] (.tup []),.n 8,.K [6] [605,606,607,608]] rfl ⟨⟨⟨⟨tt_,(congrArg (Ob.arr 1) (Qod p w))⟩,(congrArg Ob.map (Qoe p y))⟩,(Stp.mapUpdate (e:=V.I) (f:=(QO gA)) (l:=i) (k:=a) (v:=(some j.length)) ltI rfl rfl rfl rfl rfl rfl QlF QlE rfl)⟩,(QgE gA _ _ _ _ A)⟩ ?_
 cases h
 exact AK.done (ex_ [_] (an_ (an_ rfl tt_) (ex_ _ (an_ tt_ (QaJ ⟨rfl,rfl,rfl,rfl,tt_⟩)))))
def QdH (a:(List (Option Nat)))(j:(List (Int×(Option Nat))))(b:(List Qg)):Option (Int×Int×Bool):=
 (QdU a j b).bind fun c=>
 bif (c==0)then
 some (0,0,false)
 else
 (idx a 0).bind fun d=>
 (d).bind fun e=>
 (b[e]?).bind fun f=>
 (idx a 0).bind fun g=>
 (g).bind fun h=>
 (b[h]?).bind fun i=>
 some (f.id,i.at_,true)
theorem QeB (gA:Nat→Nat)(i:(List (Option Nat)))(v:(List (Int×(Option Nat))))(w:(List Qg)){r:(Int×Int×Bool)}(h:QdH i v w=some r):Qf prog 86 [.loc 607 0 0] [(607,.var [.own 605 i.length,.map 608]),(605,.arr 1 (i.map (QA gA))),(608,.map (QK V.I (QO gA) v)),(609,.tbl gA 3 (w.map Qh))] (Qp (.tup [.I r.1,.I r.2.1,.b r.2.2]) [(605,.arr 1 (i.map (QA gA))),(607,.var [.own 605 i.length,.map 608]),(608,.map (QK V.I (QO gA) v)),(609,.tbl gA 3 (w.map Qh))]):=by
 refine Qf.walk 26 func86 rfl rfl rfl fun C hC=>?_
 obtain⟨x,k,h⟩:=Qc h
 refine Qa hC [.n 11,.cm (.fn) [(607,607),(605,605),(608,608),(609,609)] [(605,605),(607,607),(608,608),(609,609)] [605] [.d] [(605,.arr 1 (i.map (QA gA))),(607,.var [.own 605 i.length,.map 608]),(608,.map (QK V.I (QO gA) v)),(609,.tbl gA 3 (w.map Qh))] (.I x),.n 3] rfl ⟨tt_,(QeW gA _ _ _ k)⟩ ?_
 rcases QP h with⟨c,h⟩|⟨c,h⟩
 ·refine Qa hC [.T,.n 9,.K [2,3,4] [605,607,608,609]] rfl ⟨tt_,c⟩ ?_
  cases h
  exact AK.done (ex_ [_,_,_] (an_ (an_ rfl (an_ rfl (an_ rfl tt_))) (QaJ ⟨rfl,rfl,rfl,rfl,tt_⟩)))
 obtain⟨y,f,h⟩:=Qc h
 obtain⟨l,o,h⟩:=Qc h
 obtain⟨z,p,h⟩:=Qc h
 obtain⟨A,g,h⟩:=Qc h
 obtain⟨q,t,h⟩:=Qc h
 obtain⟨B,u,h⟩:=Qc h
 refine Qa hC [.F,.n 3,.K [0,2,3,4] [605,607,608,609]] rfl ⟨tt_,c⟩ ?_
 refine AK.draw2 Ql hC mixed [.N,.N,.N,.N,.N,.a (.row ((QA gA) y)) none false,.a (.any (Qaw gA 0 l) none) none false,.a (.any (Qaw gA 0 l) none) none false,.a (.any (.I z.id) none) none false,.a .no none true,.a .no none true,.a .no none true,.a .no none true,.a .no none true,.a (.row ((QA gA) A)) none true,.a (.any (Qaw gA 0 q) none) none true,.a (.any (Qaw gA 1 q) none) none true,.a (.any (.I B.at_) none) none true,.m .s,.m .s,.m .s] [0,4] [605,607,608,609] [2,3,4] [605,607,608,609] rfl rfl rfl ⟨⟨⟨⟨⟨⟨⟨⟨⟨⟨tt_,(Qbk f rfl)⟩,(QX (Qbv f).2)⟩,(fun σ e j _=>Stp.nilCheckP rfl rfl (Qo hC.n rfl) (e _ _ rfl) o)⟩,(fun σ e j _=>Stp.fieldP rfl rfl (Qo hC.n rfl) (e _ _ rfl) (Ql.fo rfl rfl) rfl)⟩,(fun σ e j _=>Stp.loadP (b:=609) rfl rfl (Qo hC.n rfl) (e _ _ rfl) (j _ _ rfl) (Ql.ag rfl) (QX p) rfl)⟩,(Qbk g rfl)⟩,(QX (Qbv g).2)⟩,(fun σ e j _=>Stp.nilCheckP rfl rfl (Qo hC.n rfl) (e _ _ rfl) t)⟩,(fun σ e j _=>Stp.fieldP rfl rfl (Qo hC.n rfl) (e _ _ rfl) (Ql.fo rfl rfl) rfl)⟩,(fun σ e j _=>Stp.loadP (b:=609) rfl rfl (Qo hC.n rfl) (e _ _ rfl) (j _ _ rfl) (Ql.ag rfl) (QX u) rfl)⟩ rfl (by kernel_rfl) rfl rfl rfl ?_
 refine tg_ hC [.n 2,.K [2,3,4] [605,607,608,609]] rfl ?_
 cases h
 exact AK.done (ex_ [_,_,_] (an_ (an_ rfl (an_ rfl (an_ rfl tt_))) (QaJ ⟨rfl,rfl,rfl,rfl,tt_⟩)))
def Qb7 (a:(List (Option Nat)))(b:Int)(c:(List Qg))(d:Int):Option ((Int×(List Qg)×(List (Option Nat)))⊕(Int×(List Qg)×(List (Option Nat)))):=
 (QbQ a d b c).bind fun f=>
 bif (!f)then
 some (.inr (b,c,a))
 else
 (QbR a b d c).bind fun e=>
 (chk (decide (e.1.length=a.length))).bind fun _=>
 some (.inl (d,e.2,e.1))
def QgF (a:Int)(e:Int)(b:(List (Option Nat)))(c:(List Qg)):Option Bool:=
 bif (decide ((w64 ((w64 ((w64 (2*a))+1))+1))<e))then
 (QbQ b (w64 ((w64 ((w64 (2*a))+1))+1)) (w64 ((w64 (2*a))+1)) c).bind fun d=>
 some d
 else
 some false
def Qb8 (b:(List (Option Nat)))(a:Int)(c:(List Qg))(d:Bool):Option ((Int×(List Qg)×(List (Option Nat)))⊕(Int×(List Qg)×(List (Option Nat)))):=
 bif d then
 Qb7 b a c (w64 ((w64 ((w64 (2*a))+1))+1))
 else
 Qb7 b a c (w64 ((w64 (2*a))+1))
def QdI (e:Int)(a:Int)(b:(List Qg))(c:(List (Option Nat))):Option ((Int×(List Qg)×(List (Option Nat)))⊕(Int×(List Qg)×(List (Option Nat)))):=
 bif ((decide (e≤(w64 ((w64 (2*a))+1))))||(decide ((w64 ((w64 (2*a))+1))<0)))then
 some (.inr (a,b,c))
 else
 (QgF a e c b).bind (fun d=>Qb8 c a b d)
def QdJ (d:Int)(a:Int)(b:(List Qg))(c:(List (Option Nat))):Option (Bool×(List (Option Nat))×(List Qg)):=
 some ((decide (d<a)),c,b)
def QeC (b:(List (Option Nat)))(e:(List (Int×(Option Nat))))(a:Int)(c:Int)(d:(List Qg)):Option (Bool×(List (Option Nat))×(List Qg)):=
 (QU (fun st=>QdI c st.1 st.2.1 st.2.2) (a,d,b)).bind (fun q=>QdJ a q.1 q.2.1 q.2.2)
theorem QgG (gA:Nat→Nat)(D:(List (Option Nat)))(p:(List (Int×(Option Nat))))(s:Int)(i:Int)(N:(List Qg)){r:(Bool×(List (Option Nat))×(List Qg))}(h:QeC D p s i N=some r):Qf prog 105 [.ifc 120 (.loc 607 0 0),.I s,.I i] [(607,.var [.own 605 D.length,.map 608]),(605,.arr 1 (D.map (QA gA))),(608,.map (QK V.I (QO gA) p)),(609,.tbl gA 3 (N.map Qh))] (Qp (.b r.1) [(605,.arr 1 (r.2.1.map (QA gA))),(607,.var [.own 605 r.2.1.length,.map 608]),(608,.map (QK V.I (QO gA) p)),(609,.tbl gA 3 (r.2.2.map Qh))]):=by
 refine Qf.walk 48 func105 rfl rfl rfl fun C hC=>?_
 refine tg_ hC [.n 13,.K [0,1,2,7] [605,607,608,609]] rfl ?_
 obtain⟨E,w,h⟩:=Qc h
 refine AK.loop (body:=(fun st=>QdI i st.1 st.2.1 st.2.2)) (fun st σ=>σ=⟨[(0,.ifc 120 (.loc 607 0 0)),(1,.I s),(2,.I i),(7,.I st.1)],[(605,.arr 1 (st.2.2.map (QA gA))),(607,.var [.own 605 st.2.2.length,.map 608]),(608,.map (QK V.I (QO gA) p)),(609,.tbl gA 3 (st.2.1.map Qh))]⟩) (fun q e σ=>e=.exit 0∧σ=⟨[(1,.I s),(7,.I q.1)],[(605,.arr 1 (q.2.2.map (QA gA))),(607,.var [.own 605 q.2.2.length,.map 608]),(608,.map (QK V.I (QO gA) p)),(609,.tbl gA 3 (q.2.1.map Qh))]⟩) w rfl ?_ ?_
 ·rintro ⟨a,f,c⟩ o σ rfl h
  refine tg_ hC [.n 11] rfl ?_
  refine AK.meetX (fun σ=>σ=⟨[(0,.ifc 120 (.loc 607 0 0)),(1,.I s),(2,.I i),(7,.I a),(8,.I (w64 ((w64 (2*a))+1))),(21,.b ((decide (i≤(w64 ((w64 (2*a))+1))))||(decide ((w64 ((w64 (2*a))+1))<0))))],[(605,.arr 1 (c.map (QA gA))),(607,.var [.own 605 c.length,.map 608]),(608,.map (QK V.I (QO gA) p)),(609,.tbl gA 3 (f.map Qh))]⟩) ?_ ?_
  ·refine tg_ hC [.n 5] rfl ?_
   rcases QbM (decide (i≤(w64 ((w64 (2*a))+1))))with g | g
   ·refine Qa hC [.S 18 (.b true),.n 4,.S 21 (.b ((decide (i≤(w64 ((w64 (2*a))+1))))||(decide ((w64 ((w64 (2*a))+1))<0)))),.K [0,1,2,7,8,21] [605,607,608,609]] rfl ⟨(tc_ g),(congrArg V.b (orT g rfl))⟩ ?_
    exact AK.met rfl
   refine Qa hC [.S 18 (.b false),.n 4,.S 21 (.b ((decide (i≤(w64 ((w64 (2*a))+1))))||(decide ((w64 ((w64 (2*a))+1))<0)))),.K [0,1,2,7,8,21] [605,607,608,609]] rfl ⟨(tc_ g),(congrArg V.b (orF g rfl))⟩ ?_
   exact AK.met rfl
  rintro σ rfl
  refine tg_ hC [.n 1] rfl ?_
  refine bg_ h (fun j h=>Qa hC [.T,.n 3,.K [1,7] [605,607,608,609]] rfl ⟨tt_,j⟩ ?_) fun j h=>Qa hC [.F,.n 8] rfl ⟨tt_,j⟩ ?_
  ·cases h
   exact QaC rfl (an_ rfl rfl)
  refine AK.meet (fun σ=>∃t:Int,σ=⟨[(0,.ifc 120 (.loc 607 0 0)),(1,.I s),(2,.I i),(7,.I a),(9,.I t)],[(605,.arr 1 (c.map (QA gA))),(607,.var [.own 605 c.length,.map 608]),(608,.map (QK V.I (QO gA) p)),(609,.tbl gA 3 (f.map Qh))]⟩∧Qb7 c a f t=some o) ?_ ?_
  ·refine tg_ hC [.n 8] rfl ?_
   obtain⟨u,x,h⟩:=Qc h
   replace h:Qb8 c a f u=some o:=h
   refine AK.meetX (fun σ=>σ=⟨[(0,.ifc 120 (.loc 607 0 0)),(1,.I s),(2,.I i),(7,.I a),(9,.I (w64 ((w64 (2*a))+1))),(10,.I (w64 ((w64 ((w64 (2*a))+1))+1))),(33,.b u)],[(605,.arr 1 (c.map (QA gA))),(607,.var [.own 605 c.length,.map 608]),(608,.map (QK V.I (QO gA) p)),(609,.tbl gA 3 (f.map Qh))]⟩) ?_ ?_
   ·replace h:=x
    refine tg_ hC [.n 5] rfl ?_
    rcases QP h with⟨k,h⟩|⟨k,h⟩
    ·obtain⟨G,y,h⟩:=Qc h
     refine Qa hC [.S 28 (.b true),.n 3,.cm (.mv 125 113) [(607,605),(608,609)] [(605,607),(609,608)] [] [.d,.d,.d] [(607,.arr 1 (c.map (QA gA))),(608,.tbl gA 3 (f.map Qh))] (.b G),.n 2,.K [0,1,2,7,9,10,33] [605,607,608,609]] rfl ⟨⟨(tc_ k),Qhw⟩,(Qch gA _ _ _ _ y)⟩ ?_
     cases h
     exact AK.met rfl
    refine Qa hC [.S 28 (.b false),.n 6,.K [0,1,2,7,9,10,33] [605,607,608,609]] rfl (tc_ k) ?_
    cases h
    exact AK.met rfl
   rintro σ rfl
   replace h:Qb8 c a f u=some o:=h
   refine tg_ hC [.n 1] rfl ?_
   refine bg_ h (fun l h=>Qa hC [.T,.n 4,.K [0,1,2,7,9] [605,607,608,609]] rfl ⟨tt_,l⟩ ?_) fun l h=>Qa hC [.F,.n 1,.K [0,1,2,7,9] [605,607,608,609]] rfl ⟨tt_,l⟩ ?_
   ·exact AK.met (ex_ _ (an_ rfl h))
   exact AK.met (ex_ _ (an_ rfl h))
  rintro σ ⟨t,rfl,h⟩
  obtain⟨H,z,h⟩:=Qc h
  refine Qa hC [.n 6,.cm (.mv 125 113) [(607,605),(608,609)] [(605,607),(609,608)] [] [.d,.d,.d] [(607,.arr 1 (c.map (QA gA))),(608,.tbl gA 3 (f.map Qh))] (.b H),.n 3] rfl ⟨⟨tt_,Qhw⟩,(Qch gA _ _ _ _ z)⟩ ?_
  rcases QP h with⟨m,h⟩|⟨m,h⟩
  ·refine Qa hC [.T,.n 3,.K [1,7] [605,607,608,609]] rfl ⟨tt_,m⟩ ?_
   cases h
   exact QaC rfl (an_ rfl rfl)
  obtain⟨v,A,h⟩:=Qc h
  obtain⟨B,h⟩:=Qb5 h
  refine Qa hC [.F,.n 7,.cm (.mv 126 113) [(607,605),(608,609)] [(605,607),(609,608)] [] [.d,.d,.d] [(607,.arr 1 (v.1.map (QA gA))),(608,.tbl gA 3 (v.2.map Qh))] (.tup []),.O 607 (.var [.own 605 v.1.length,.map 608]),.n 7,.K [0,1,2,7] [605,607,608,609]] rfl ⟨⟨⟨⟨tt_,m⟩,Qhx⟩,(Qci gA _ _ _ _ A)⟩,(by simp [QbC B])⟩ ?_
  cases h
  exact QaF rfl rfl
 obtain⟨J,L,M⟩:=E
 replace h:QdJ s J L M=some r:=h
 rintro e σ ⟨rfl,rfl⟩
 refine tg_ hC [.n 11] rfl ?_
 cases h
 exact d1_ rfl rfl ⟨rfl,rfl,rfl,rfl,tt_⟩
def Qfj (a:(List (Option Nat)))(c:(List (Int×(Option Nat))))(d:(List Qg)):Option ((Option Nat)×(List (Option Nat))):=
 (idx a (w64 ((a.length:Int)-1))).bind fun b=>
 (chk (decide (0≤(w64 ((a.length:Int)-1)))&&decide ((w64 ((a.length:Int)-1)).toNat≤a.length))).bind fun _=>
 some (b,(a.take (w64 ((a.length:Int)-1)).toNat))
theorem QhC (gA:Nat→Nat)(b:(List (Option Nat)))(e:(List (Int×(Option Nat))))(f:(List Qg)){r:((Option Nat)×(List (Option Nat)))}(h:Qfj b e f=some r):Qf prog 127 [.loc 607 0 0] [(607,.var [.own 605 b.length,.map 608]),(605,.arr 1 (b.map (QA gA))),(608,.map (QK V.I (QO gA) e)),(609,.tbl gA 3 (f.map Qh))] (Qp (.ifc 116 (QO gA r.1)) [(605,.arr 1 (r.2.map (QA gA))),(607,.var [.own 605 r.2.length,.map 608]),(608,.map (QK V.I (QO gA) e)),(609,.tbl gA 3 (f.map Qh))]):=by
 refine Qf.walk 27 func127 rfl rfl rfl fun C hC=>?_
 obtain⟨j,d,h⟩:=Qc h
 refine tg_ hC [.n 6,.K [0] [605,607,608,609]] rfl ?_
 refine AK.draw2 Ql hC mixed [.N,.N,.N,.N,.N,.N,.N,.N,.N,.a (.row ((QA gA) j)) none false,.N] [] [] [0,3] [605,607,608,609] rfl rfl rfl ⟨⟨tt_,(Qbk d rfl)⟩,(QX (Qbv d).2)⟩ rfl (by kernel_rfl) rfl rfl rfl ?_
 obtain⟨c,h⟩:=Qb5 h
 refine tg_ hC [.n 2,.K [0,3] [605,607,608,609]] rfl ?_
 have g:(w64 ((b.length:Int)-1)).toNat=(b.take (w64 ((b.length:Int)-1)).toNat).length:=by rw [Qh0,Nat.min_eq_left (QbC (Qj0 c))]
 refine AK.draw2 Ql hC mixed [.a .no none true,.N,.N,.N,.N,.N,.N,.N,.N,.m (.any ⟨[],[(605,.arr 1 ((b.take (w64 ((b.length:Int)-1)).toNat).map (QA gA)))],some (23,.own 605 (w64 ((b.length:Int)-1)).toNat)⟩),.N,.m .s] [0,3] [607,608,609] [3] [605,607,608,609] rfl rfl rfl ⟨tt_,(fun σ i k=>Stp.sliceO rfl rfl (Qo hC.n rfl) (i _ _ rfl) (k _ _ rfl) (Ql.es rfl) Bnd.no (Bnd.val (i _ _ rfl) (QbC (QjZ c)) rfl) (QbC (Qj0 c)) (by simp))⟩ rfl (by kernel_rfl) rfl rfl rfl ?_
 refine Qa hC [.O 607 (.var [.own 605 (w64 ((b.length:Int)-1)).toNat,.map 608]),.n 9,.O 607 (.var [.own 605 (b.take (w64 ((b.length:Int)-1)).toNat).length,.map 608])] rfl ⟨⟨tt_,rfl⟩,(congrArg (fun n=>Ob.var [.own 605 n,.map 608]) (by rw [←g]))⟩ ?_
 cases h
 exact d1_ rfl rfl ⟨rfl,rfl,rfl,rfl,tt_⟩
def QeZ (c:(List (Option Nat)))(e:(List (Int×(Option Nat))))(f:(List Qg)):Option ((Option Nat)×(List (Option Nat))×(List Qg)):=
 (Qdi c f).bind fun g=>
 (QbR c 0 (w64 (g-1)) f).bind fun d=>
 (chk (decide (d.1.length=c.length))).bind fun _=>
 (QeC d.1 e 0 (w64 (g-1)) d.2).bind fun a=>
 (Qfj a.2.1 e a.2.2).bind fun b=>
 some (b.1,b.2,a.2.2)
theorem QgT (gA:Nat→Nat)(i:(List (Option Nat)))(e:(List (Int×(Option Nat))))(j:(List Qg)){r:((Option Nat)×(List (Option Nat))×(List Qg))}(h:QeZ i e j=some r):Qf prog 87 [.ifc 120 (.loc 607 0 0)] [(607,.var [.own 605 i.length,.map 608]),(605,.arr 1 (i.map (QA gA))),(608,.map (QK V.I (QO gA) e)),(609,.tbl gA 3 (j.map Qh))] (Qp (.ifc 116 (QO gA r.1)) [(605,.arr 1 (r.2.1.map (QA gA))),(607,.var [.own 605 r.2.1.length,.map 608]),(608,.map (QK V.I (QO gA) e)),(609,.tbl gA 3 (r.2.2.map Qh))]):=by
 refine Qf.walk 15 func87 rfl rfl rfl fun C hC=>?_
 obtain⟨p,k,h⟩:=Qc h
 obtain⟨l,m,h⟩:=Qc h
 obtain⟨o,h⟩:=Qb5 h
 obtain⟨a,f,h⟩:=Qc h
 obtain⟨c,g,h⟩:=Qc h
 refine Qa hC [.n 8,.cm (.mv 124 113) [(607,605),(608,609)] [(605,607),(609,608)] [] [.d] [(607,.arr 1 (i.map (QA gA))),(608,.tbl gA 3 (j.map Qh))] (.I p),.n 8,.cm (.mv 126 113) [(607,605),(608,609)] [(605,607),(609,608)] [] [.d,.d,.d] [(607,.arr 1 (l.1.map (QA gA))),(608,.tbl gA 3 (l.2.map Qh))] (.tup []),.O 607 (.var [.own 605 l.1.length,.map 608]),.n 6,.cm (.fn) [(607,607),(605,605),(608,608),(609,609)] [(605,605),(607,607),(608,608),(609,609)] [605] [.d,.d,.d] [(605,.arr 1 (a.2.1.map (QA gA))),(607,.var [.own 605 a.2.1.length,.map 608]),(608,.map (QK V.I (QO gA) e)),(609,.tbl gA 3 (a.2.2.map Qh))] (.b a.1),.n 5,.cm (.me 127) [(607,607),(605,605),(608,608),(609,609)] [(605,605),(607,607),(608,608),(609,609)] [605] [.d] [(605,.arr 1 (c.2.map (QA gA))),(607,.var [.own 605 c.2.length,.map 608]),(608,.map (QK V.I (QO gA) e)),(609,.tbl gA 3 (a.2.2.map Qh))] (.ifc 116 (QO gA c.1)),.n 4] rfl ⟨⟨⟨⟨⟨⟨⟨⟨tt_,Qj9⟩,(Qd4 gA _ _ k)⟩,Qhx⟩,(Qci gA _ _ _ _ m)⟩,(by simp [QbC o])⟩,(QgG gA _ _ _ _ _ f)⟩,QmJ⟩,(QhC gA _ _ _ g)⟩ ?_
 cases h
 exact d1_ rfl rfl ⟨rfl,rfl,rfl,rfl,tt_⟩
def Qe0 (f:Int)(a:Int)(at_14:Int)(g:Bool)(d:(List Int))(b:(List (Int×(Option Nat))))(h:(List Qg))(i:(List (Option Nat))):Option ((Int×Int×Bool×(List Int)×(List (Int×(Option Nat)))×(List Qg)×(List (Option Nat)))⊕((List Int)×(List (Int×(Option Nat)))×(List Qg)×(List (Option Nat)))):=
 bif (g&&(decide (at_14≤f)))then
 (chk (decide (d.length+([a]:List Int).length≤4294967296))).bind fun _=>
 (QeZ i b h).bind fun c=>
 (QdH c.2.1 (QdS b a) c.2.2).bind fun e=>
 some (.inl (e.1,e.2.1,e.2.2,(d++([a]:List Int)),(QdS b a),c.2.2,c.2.1))
 else
 some (.inr (d,b,h,i))
def Qe1 (a:(List Int))(b:(List (Int×(Option Nat))))(c:(List Qg))(d:(List (Option Nat))):Option ((List Int)×(List (Option Nat))×(List (Int×(Option Nat)))×(List Qg)):=
 some (a,d,b,c)
def Qf3 (c:(List (Option Nat)))(d:(List (Int×(Option Nat))))(a:Int)(e:(List Qg)):Option ((List Int)×(List (Option Nat))×(List (Int×(Option Nat)))×(List Qg)):=
 (QdH c d e).bind fun b=>
 (QU (fun st=>Qe0 a st.1 st.2.1 st.2.2.1 st.2.2.2.1 st.2.2.2.2.1 st.2.2.2.2.2.1 st.2.2.2.2.2.2) (b.1,b.2.1,b.2.2,([]:List Int),d,e,c)).bind (fun q=>Qe1 q.1 q.2.1 q.2.2.1 q.2.2.2)
theorem QiA (gA:Nat→Nat)(u:(List (Option Nat)))(D:(List (Int×(Option Nat))))(a:Int)(E:(List Qg)){r:((List Int)×(List (Option Nat))×(List (Int×(Option Nat)))×(List Qg))}(h:Qf3 u D a E=some r):Qf prog 46 [.loc 607 0 0,.I a] [(607,.var [.own 605 u.length,.map 608]),(605,.arr 1 (u.map (QA gA))),(608,.map (QK V.I (QO gA) D)),(609,.tbl gA 3 (E.map Qh))] (Qp (.own 600 r.1.length) [(600,.arr 1 (r.1.map Qq)),(605,.arr 1 (r.2.1.map (QA gA))),(607,.var [.own 605 r.2.1.length,.map 608]),(608,.map (QK V.I (QO gA) r.2.2.1)),(609,.tbl gA 3 (r.2.2.2.map Qh))]):=by
 refine Qf.walk 42 func46 rfl rfl rfl fun C hC=>?_
 obtain⟨G,H,h⟩:=Qc h
 refine Qa hC [.n 14,.cm (.fn) [(607,607),(605,605),(608,608),(609,609)] [(605,605),(607,607),(608,608),(609,609)] [605] [.d] [(605,.arr 1 (u.map (QA gA))),(607,.var [.own 605 u.length,.map 608]),(608,.map (QK V.I (QO gA) D)),(609,.tbl gA 3 (E.map Qh))] (.tup [.I G.1,.I G.2.1,.b G.2.2]),.n 10,.adopt 5 27 1,.O 27 (.arr 1 (([]:List Int).map Qq)),.S 5 (.own 27 ([]:List Int).length),.K [0,1,5,6,7,8] [27,605,607,608,609]] rfl ⟨⟨⟨tt_,(QeB gA _ _ _ H)⟩,rfl⟩,(congrArg (fun n=>V.own 27 n) (by simp))⟩ ?_
 obtain⟨J,w,h⟩:=Qc h
 refine AK.loop (body:=(fun st=>Qe0 a st.1 st.2.1 st.2.2.1 st.2.2.2.1 st.2.2.2.2.1 st.2.2.2.2.2.1 st.2.2.2.2.2.2)) (fun st σ=>σ=⟨[(0,.loc 607 0 0),(1,.I a),(5,.own 27 st.2.2.2.1.length),(6,.I st.1),(7,.I st.2.1),(8,.b st.2.2.1)],[(27,.arr 1 (st.2.2.2.1.map Qq)),(605,.arr 1 (st.2.2.2.2.2.2.map (QA gA))),(607,.var [.own 605 st.2.2.2.2.2.2.length,.map 608]),(608,.map (QK V.I (QO gA) st.2.2.2.2.1)),(609,.tbl gA 3 (st.2.2.2.2.2.1.map Qh))]⟩) (fun q e σ=>e=.exit 0∧σ=⟨[(5,.own 27 q.1.length)],[(27,.arr 1 (q.1.map Qq)),(605,.arr 1 (q.2.2.2.map (QA gA))),(607,.var [.own 605 q.2.2.2.length,.map 608]),(608,.map (QK V.I (QO gA) q.2.1)),(609,.tbl gA 3 (q.2.2.1.map Qh))]⟩) w rfl ?_ ?_
 ·rintro ⟨c,at_14,j,s,m,L,y⟩ o σ rfl h
  refine tg_ hC [.n 2] rfl ?_
  refine AK.meetX (fun σ=>σ=⟨[(0,.loc 607 0 0),(1,.I a),(5,.own 27 s.length),(6,.I c),(20,.b (j&&(decide (at_14≤a))))],[(27,.arr 1 (s.map Qq)),(605,.arr 1 (y.map (QA gA))),(607,.var [.own 605 y.length,.map 608]),(608,.map (QK V.I (QO gA) m)),(609,.tbl gA 3 (L.map Qh))]⟩) ?_ ?_
  ·refine tg_ hC [.n 3] rfl ?_
   rcases QbM j with g | g
   ·refine Qa hC [.S 16 (.b true),.n 5,.S 20 (.b (j&&(decide (at_14≤a)))),.K [0,1,5,6,20] [27,605,607,608,609]] rfl ⟨(tc_ g),(congrArg V.b (Qid g rfl))⟩ ?_
    exact AK.met rfl
   refine Qa hC [.S 16 (.b false),.n 5,.S 20 (.b (j&&(decide (at_14≤a)))),.K [0,1,5,6,20] [27,605,607,608,609]] rfl ⟨(tc_ g),(congrArg V.b (Qie g rfl))⟩ ?_
   exact AK.met rfl
  rintro σ rfl
  refine tg_ hC [.n 1] rfl ?_
  rcases QP h with⟨p,h⟩|⟨p,h⟩
  ·obtain⟨z,h⟩:=Qb5 h
   obtain⟨i,A,h⟩:=Qc h
   obtain⟨t,B,h⟩:=Qc h
   refine Qa hC [.T,.n 8,.v (.bd []) [] (.sl 1 (([c]:List Int).map Qq)),.app ((s++([c]:List Int)).map Qq) (s++([c]:List Int)).length,.n 9,.cm (.fn) [(607,607),(605,605),(608,608),(609,609)] [(605,605),(607,607),(608,608),(609,609)] [605] [.d] [(605,.arr 1 (i.2.1.map (QA gA))),(607,.var [.own 605 i.2.1.length,.map 608]),(608,.map (QK V.I (QO gA) m)),(609,.tbl gA 3 (i.2.2.map Qh))] (.ifc 116 (QO gA i.1)),.n 8,.x (fun σ=>σ.set 608 (.map (QK V.I (QO gA) (QdS m c)))),.n 5,.cm (.fn) [(607,607),(605,605),(608,608),(609,609)] [(605,605),(607,607),(608,608),(609,609)] [605] [.d] [(605,.arr 1 (i.2.1.map (QA gA))),(607,.var [.own 605 i.2.1.length,.map 608]),(608,.map (QK V.I (QO gA) (QdS m c))),(609,.tbl gA 3 (i.2.2.map Qh))] (.tup [.I t.1,.I t.2.1,.b t.2.2]),.n 8,.K [0,1,5,6,7,8] [27,605,607,608,609]] rfl ⟨⟨⟨⟨⟨⟨tt_,p⟩,rfl⟩,⟨Qj,Qc6 z Qj,QbY,Qeg Qj⟩⟩,(QgT gA _ _ _ A)⟩,(Stp.delete (e:=V.I) (f:=(QO gA)) (l:=m) (k:=c) rfl rfl rfl rfl rfl QlF QlE)⟩,(QeB gA _ _ _ B)⟩ ?_
   cases h
   exact QaF rfl rfl
  refine Qa hC [.F,.n 2,.K [5] [27,605,607,608,609]] rfl ⟨tt_,p⟩ ?_
  cases h
  exact QaC rfl (an_ rfl rfl)
 obtain⟨M,N,P,U⟩:=J
 replace h:Qe1 M N P U=some r:=h
 rintro e σ ⟨rfl,rfl⟩
 refine tg_ hC [.n 9,.K [4] [27,605,607,608,609],.ren 27 600] rfl ?_
 cases h
 exact d1_ rfl rfl ⟨rfl,rfl,rfl,rfl,rfl,tt_⟩
def Qfr (e:Int)(f:(List (Int×Bool)))(a:Qk)(b:(List (Option Nat)))(c:(List (Int×(Option Nat))))(d:(List Qg)):Option ((Int×(List (Int×Bool))×(List (Option Nat))×(List (Int×(Option Nat)))×(List Qg))⊕((List (Option Nat))×(List (Int×(Option Nat)))×(List Qg))):=
 some (.inl ((w64 (e+1)),(Qem ltI f a.Id true),b,c,d))
def QhR (h:(List Qk))(d:Int)(e:(List (Int×Bool)))(f:(List (Option Nat)))(g:(List (Int×(Option Nat))))(b:(List Qg)):Option ((Int×(List (Int×Bool))×(List (Option Nat))×(List (Int×(Option Nat)))×(List Qg))⊕((List (Option Nat))×(List (Int×(Option Nat)))×(List Qg))):=
 bif (decide (d<(h.length:Int)))then
 (idx h d).bind fun a=>
 bif ((!((QbJ e a.Id).getD false))&&(decide (0<a.Until)))then
 (QeY f g a.Id a.Until b).bind fun c=>
 Qfr d e a c.2.1 c.2.2.2 c.2.2.1
 else
 Qfr d e a f g b
 else
 some (.inr (f,g,b))
def QhS (a:Int)(b:(List (Option Nat)))(c:(List (Int×(Option Nat))))(d:(List Qg)):Option (List Int):=
 (Qf3 b c a d).bind fun e=>
 some e.1
def Qjz (c:(List Qk))(a:Int):Option (List Int):=
 (Qjy).bind fun b=>
 (QU (fun st=>QhR c st.1 st.2.1 st.2.2.1 st.2.2.2.1 st.2.2.2.2) (0,([]:(List (Int×Bool))),([]:List (Option Nat)),b.1,b.2)).bind (fun q=>QhS a q.1 q.2.1 q.2.2)
theorem Qky (gA:Nat→Nat)(t:(List Qk))(c:Int){r:(List Int)}(h:Qjz t c=some r):Qf prog 19 [.sl 11 (t.map Qd),.I c] [] (Qp (.own 600 r.length) [(600,.arr 1 (r.map Qq))]):=by
 refine Qf.walk 40 func19 rfl rfl rfl fun C hC=>?_
 obtain⟨U,G,h⟩:=Qc h
 refine Qa hC [.n 7,.cm (.fn) [] [(9,1),(602,3),(603,601)] [] [] [(1,.map (QK V.I (QO gA) U.1)),(3,.var [.lit (.slice none 0 0),.map 1]),(601,.tbl gA 3 (U.2.map Qh))] (.loc 3 0 0),.n 6,.O 10 (.map (QK V.I V.b ([]:(List (Int×Bool))))),.n 7,.o (.ln t.length),.n 4,.adoptO 602 0 604 1,.O 604 (.arr 1 (([]:List (Option Nat)).map (QA gA))),.O 602 (.var [.own 604 ([]:List (Option Nat)).length,.map 9]),.K [1,5,6,11,12,13] [9,10,602,603,604]] rfl ⟨⟨⟨⟨⟨tt_,(Qkx gA  G)⟩,rfl⟩,Qj⟩,rfl⟩,(congrArg (fun n=>Ob.var [.own 604 n,.map 9]) (by simp))⟩ ?_
 obtain⟨H,A,h⟩:=Qc h
 refine AK.loop (body:=(fun st=>QhR t st.1 st.2.1 st.2.2.1 st.2.2.2.1 st.2.2.2.2)) (fun st σ=>∃gA:Nat→Nat,σ=⟨[(1,.I c),(5,.loc 602 0 0),(6,.map 10),(11,.sl 11 (t.map Qd)),(12,.I (t.length:Int)),(13,.I st.1)],[(9,.map (QK V.I (QO gA) st.2.2.2.1)),(10,.map (QK V.I V.b st.2.1)),(602,.var [.own 604 st.2.2.1.length,.map 9]),(603,.tbl gA 3 (st.2.2.2.2.map Qh)),(604,.arr 1 (st.2.2.1.map (QA gA)))]⟩) (fun q e σ=>e=.exit 0∧∃gA:Nat→Nat,σ=⟨[(1,.I c),(5,.loc 602 0 0)],[(9,.map (QK V.I (QO gA) q.2.1)),(602,.var [.own 604 q.1.length,.map 9]),(603,.tbl gA 3 (q.2.2.map Qh)),(604,.arr 1 (q.1.map (QA gA)))]⟩) A (ex_ _ rfl) ?_ ?_
 ·rintro ⟨J,j,W,Y,L⟩ o σ ⟨gA,rfl⟩ h
  refine tg_ hC [.n 6] rfl ?_
  rcases QP h with⟨m,h⟩|⟨m,h⟩
  ·obtain⟨a,B,h⟩:=Qc h
   refine Qa hC [.T,.n 6,.o (.row (Qd a)),.v .no [] (.agg (Qd a)),.n 2,.O 8 (.var (Qd a)),.n 2] rfl ⟨⟨⟨⟨tt_,m⟩,(Qan B)⟩,rfl⟩,rfl⟩ ?_
   refine AK.meet (fun σ=>∃gA:Nat→Nat,∃u:(List (Option Nat)),∃w:(List (Int×(Option Nat))),∃y:(List Qg),σ=⟨[(1,.I c),(5,.loc 602 0 0),(6,.map 10),(8,.loc 8 0 0),(11,.sl 11 (t.map Qd)),(12,.I (t.length:Int)),(13,.I J)],[(8,.var (Qd a)),(9,.map (QK V.I (QO gA) w)),(10,.map (QK V.I V.b j)),(602,.var [.own 604 u.length,.map 9]),(603,.tbl gA 3 (y.map Qh)),(604,.arr 1 (u.map (QA gA)))]⟩∧Qfr J j a u w y=some o) ?_ ?_
   ·refine tg_ hC [.n 1] rfl ?_
    refine AK.meetX (fun σ=>σ=⟨[(1,.I c),(5,.loc 602 0 0),(6,.map 10),(8,.loc 8 0 0),(11,.sl 11 (t.map Qd)),(12,.I (t.length:Int)),(13,.I J),(26,.b ((!((QbJ j a.Id).getD false))&&(decide (0<a.Until))))],[(8,.var (Qd a)),(9,.map (QK V.I (QO gA) Y)),(10,.map (QK V.I V.b j)),(602,.var [.own 604 W.length,.map 9]),(603,.tbl gA 3 (L.map Qh)),(604,.arr 1 (W.map (QA gA)))]⟩) ?_ ?_
    ·refine Qa hC [.n 4,.o (.any (.b ((QbJ j a.Id).getD false)) none),.n 2] rfl ⟨tt_,(fun σ X Z _=>Stp.lookup (e:=V.I) (f:=V.b) (l:=j) (k:=a.Id) (z:=false) rfl rfl (Qo hC.n rfl) (X _ _ rfl) (Z _ _ rfl) (X _ _ rfl) Qn1 QlE Qpg rfl)⟩ ?_
     rcases QbM (!((QbJ j a.Id).getD false))with g | g
     ·refine Qa hC [.S 22 (.b true),.n 5,.S 26 (.b ((!((QbJ j a.Id).getD false))&&(decide (0<a.Until)))),.K [1,5,6,8,11,12,13,26] [8,9,10,602,603,604]] rfl ⟨(tc_ g),(congrArg V.b (Qid g rfl))⟩ ?_
      exact AK.met rfl
     refine Qa hC [.S 22 (.b false),.n 5,.S 26 (.b ((!((QbJ j a.Id).getD false))&&(decide (0<a.Until)))),.K [1,5,6,8,11,12,13,26] [8,9,10,602,603,604]] rfl ⟨(tc_ g),(congrArg V.b (Qie g rfl))⟩ ?_
     exact AK.met rfl
    rintro σ rfl
    refine tg_ hC [.n 1] rfl ?_
    rcases QP h with⟨p,h⟩|⟨p,h⟩
    ·obtain⟨s,D,h⟩:=Qc h
     refine Qa hC [.T,.n 6] rfl ⟨tt_,p⟩ ?_
     refine AK.callE (ι:=Nat→Nat) (Φ:=fun _=>True) [(607,602),(605,604),(608,9),(606,603)] [(604,605),(603,606),(602,607),(9,608)] [604,603] [.d,.d,.d] (fun gA=>[(605,.arr 1 (s.2.1.map (QA gA))),(606,.tbl gA 3 (s.2.2.1.map Qh)),(607,.var [.own 605 s.2.1.length,.map 608]),(608,.map (QK V.I (QO gA) s.2.2.2))]) (fun gA=>.I s.1) (fun gA=>_) rfl hC (Qat.fn rfl (by kernel_rfl) rfl) rfl (Qo hC.n rfl) rfl rfl (QgS gA _ _ _ _ _ D) (fun gA=>ex_ _ rfl) fun gA _=>?_
     refine tg_ hC [.n 1,.K [1,5,6,8,11,12,13] [8,9,10,602,603,604]] rfl ?_
     exact AK.met (ex_ _ (ex_ _ (ex_ _ (ex_ _ (an_ rfl h)))))
    refine Qa hC [.F,.n 1,.K [1,5,6,8,11,12,13] [8,9,10,602,603,604]] rfl ⟨tt_,p⟩ ?_
    exact AK.met (ex_ _ (ex_ _ (ex_ _ (ex_ _ (an_ rfl h)))))
   rintro σ ⟨gA,u,w,y,rfl,h⟩
   refine Qa hC [.n 4,.x (fun σ=>σ.set 10 (.map (QK V.I V.b (Qem ltI j a.Id true)))),.n 7,.K [1,5,6,11,12,13] [9,10,602,603,604]] rfl ⟨tt_,(Stp.mapUpdate (e:=V.I) (f:=V.b) (l:=j) (k:=a.Id) (v:=true) ltI rfl rfl rfl rfl rfl rfl Qn1 QlE rfl)⟩ ?_
   cases h
   exact QaF rfl (ex_ _ rfl)
  refine Qa hC [.F,.n 2,.K [1,5] [9,602,603,604]] rfl ⟨tt_,m⟩ ?_
  cases h
  exact QaC rfl (an_ rfl (ex_ _ rfl))
 obtain⟨M,N,P⟩:=H
 replace h:QhS c M N P=some r:=h
 rintro e σ ⟨rfl,gA,rfl⟩
 obtain⟨i,E,h⟩:=Qc h
 refine Qa hC [.n 6,.cm (.fn) [(607,602),(605,604),(608,9),(609,603)] [(39,600),(604,605),(602,607),(9,608),(603,609)] [604] [.d,.d] [(600,.arr 1 (i.1.map Qq)),(605,.arr 1 (i.2.1.map (QA gA))),(607,.var [.own 605 i.2.1.length,.map 608]),(608,.map (QK V.I (QO gA) i.2.2.1)),(609,.tbl gA 3 (i.2.2.2.map Qh))] (.own 600 i.1.length),.n 4,.K [4] [39],.ren 39 600] rfl ⟨tt_,(QiA gA _ _ _ _ E)⟩ ?_
 cases h
 exact d1_ rfl rfl ⟨rfl,tt_⟩
def QbE (c:(List Int))(d:(List Int))(a:Int):Option (Int⊕(Unit⊕Unit)):=
 bif (decide (a<(c.length:Int)))then
 (idx c a).bind fun e=>
 (idx d a).bind fun b=>
 bif (e != b)then
 some (.inr (.inl ()))
 else
 some (.inl (w64 (a+1)))
 else
 some (.inr (.inr ()))
def Qe2 : Option Bool:=
 some false
def Qe3 : Option Bool:=
 some true
def Qb9 (a:(List Int))(b:(List Int)):Option Bool:=
 bif ((a.length:Int) != (b.length:Int))then
 some false
 else
 (QU (fun st=>QbE a b st) 0).bind (Sum.elim (fun q=>Qe2) (fun q=>Qe3))
theorem Qdq (g i){r}(h:Qb9 g i=some r):Qf prog 18 [.sl 1 (g.map Qq),.sl 1 (i.map Qq)] [] (Qp (.b r) []):=by
 refine Qf.walk 26 func18 rfl rfl rfl fun C hC=>?_
 refine Qa hC [.n 9,.o (.ln g.length),.n 1,.o (.ln i.length),.n 3] rfl ⟨⟨tt_,Qj⟩,Qj⟩ ?_
 refine bg_ h (fun d h=>Qa hC [.T,.n 7,.K [4] []] rfl ⟨tt_,d⟩ ?_) fun d h=>Qa hC [.F,.n 9,.K [0,1,5] []] rfl ⟨tt_,d⟩ ?_
 ·cases h
  exact d1_ rfl rfl tt_
 obtain⟨l,j,h⟩:=Qc h
 refine AK.loop (body:=(fun st=>QbE g i st)) (fun st σ=>σ=⟨[(0,.sl 1 (g.map Qq)),(1,.sl 1 (i.map Qq)),(5,.I st)],[]⟩) (Sum.elim (fun q e σ=>e=.ret∧σ=⟨[(4,.b false)],[]⟩) (fun q e σ=>e=.exit 0∧σ=⟨[],[]⟩)) j rfl ?_ ?_
 ·rintro t o σ rfl h
  refine Qa hC [.n 5,.o (.ln g.length),.n 3] rfl ⟨tt_,Qj⟩ ?_
  rcases QP h with⟨f,h⟩|⟨f,h⟩
  ·obtain⟨s,m,h⟩:=Qc h
   obtain⟨p,k,h⟩:=Qc h
   refine Qa hC [.T,.n 5,.K [0,1,5] []] rfl ⟨tt_,f⟩ ?_
   refine AK.draw2 Ql hC mixed [.N,.N,.a (.row (Qq s)) none false,.N,.N,.N,.a (.row (Qq p)) none false,.N,.N] [] [] [0,1,5,25] [] rfl rfl rfl ⟨⟨tt_,(Qan m)⟩,(Qan k)⟩ rfl (by kernel_rfl) rfl rfl rfl ?_
   refine tg_ hC [.n 1] rfl ?_
   refine bg_ h (fun c h=>Qa hC [.T,.n 8,.K [4] []] rfl ⟨tt_,c⟩ ?_) fun c h=>Qa hC [.F,.n 8,.K [0,1,5] []] rfl ⟨tt_,c⟩ ?_
   ·cases h
    exact QfU rfl (an_ rfl rfl)
   cases h
   exact QaF rfl rfl
  refine Qa hC [.F,.n 2,.K [] []] rfl ⟨tt_,f⟩ ?_
  cases h
  exact QaC rfl (an_ rfl rfl)
 rcases l with(_ | _)
 ·replace h:Qe2=some r:=h
  rintro e σ ⟨rfl,rfl⟩
  refine tg_ hC [.n 2] rfl ?_
  cases h
  exact d1_ rfl rfl tt_
 replace h:Qe3=some r:=h
 rintro e σ ⟨rfl,rfl⟩
 refine tg_ hC [.n 8] rfl ?_
 cases h
 exact d1_ rfl rfl tt_
def Qc9 (c:Int)(a:Int)(b:Int):Option Bool:=
 some ((decide (a≤c))&&(decide (c≤b)))
theorem QcX (e a c){r}(h:Qc9 e a c=some r):Qf prog 89 [.I e,.I a,.I c] [] (Qp (.b r) []):=by
 refine Qf.walk 15 func89 rfl rfl rfl fun C hC=>?_
 refine tg_ hC [.n 6] rfl ?_
 refine AK.meetX (fun σ=>σ=⟨[(6,.b ((decide (a≤e))&&(decide (e≤c))))],[]⟩) ?_ ?_
 ·refine tg_ hC [.n 5] rfl ?_
  rcases QbM (decide (a≤e))with d | d
  ·refine Qa hC [.S 10 (.b true),.n 6,.S 6 (.b ((decide (a≤e))&&(decide (e≤c)))),.K [6] []] rfl ⟨(tc_ d),(congrArg V.b (Qid d rfl))⟩ ?_
   exact AK.met rfl
  refine Qa hC [.S 10 (.b false),.n 6,.S 6 (.b ((decide (a≤e))&&(decide (e≤c)))),.K [6] []] rfl ⟨(tc_ d),(congrArg V.b (Qie d rfl))⟩ ?_
  exact AK.met rfl
 rintro σ rfl
 refine tg_ hC [.n 2] rfl ?_
 cases h
 exact d1_ rfl rfl tt_
def Qjd (a:Qam):Option Int:=
 some (w64 ((w64 (a.Open+a.Done))+a.Failed))
theorem Qkb (a){r}(h:Qjd a=some r):Qf prog 90 [.agg (Qaf a)] [] (Qp (.I r) []):=by
 refine Qf.walk 11 func90 rfl rfl rfl fun C hC=>?_
 refine tg_ hC [.n 20] rfl ?_
 cases h
 exact d1_ rfl rfl tt_
def Qkc (a:Qam):Option Bool:=
 (Qc9 a.Most 1 16).bind fun b=>
 bif (!b)then
 some true
 else
 (Qc9 a.Enough 1 a.Most).bind fun c=>
 some (!c)
def Qhb (a:Qam)(b:Int):Option (Int⊕(Unit⊕Unit)):=
 bif (decide (b<(([a.Open,a.Done,a.Failed]:List Int).length:Int)))then
 (idx ([a.Open,a.Done,a.Failed]:List Int) b).bind fun c=>
 (Qc9 c 0 a.Most).bind fun d=>
 bif (!d)then
 some (.inr (.inl ()))
 else
 some (.inl (w64 (b+1)))
 else
 some (.inr (.inr ()))
def Qhc : Option Bool:=
 some false
def Qhd (c:Qam):Option Bool:=
 (Qjd c).bind fun a=>
 (Qc9 a 1 c.Most).bind fun b=>
 some b
def Qe4 (a:Qam)(b:Bool):Option Bool:=
 bif b then
 some false
 else
 (QU (fun st=>Qhb a st) 0).bind (Sum.elim (fun q=>Qhc) (fun q=>Qhd a))
def QgH (a:Qam):Option Bool:=
 (Qkc a).bind (fun b=>Qe4 a b)
theorem Qhe (f){r}(h:QgH f=some r):Qf prog 50 [.agg (Qaf f)] [] (Qp (.b r) []):=by
 refine Qf.walk 40 func50 rfl rfl rfl fun C hC=>?_
 refine tg_ hC [.n 8] rfl ?_
 obtain⟨u,w,h⟩:=Qc h
 replace h:Qe4 f u=some r:=h
 refine AK.meetX (fun σ=>σ=⟨[(1,.loc 1 0 0),(16,.b u)],[(1,.var (Qaf f))]⟩) ?_ ?_
 ·replace h:=w
  obtain⟨G,x,h⟩:=Qc h
  refine Qa hC [.n 3,.o (.c false [.d,.d,.d] (.b G)),.n 2] rfl ⟨tt_,(QcX _ _ _ x)⟩ ?_
  rcases QP h with⟨j,h⟩|⟨j,h⟩
  ·refine Qa hC [.S 9 (.b true),.n 8,.K [1,16] [1]] rfl (tc_ j) ?_
   cases h
   exact AK.met rfl
  obtain⟨H,y,h⟩:=Qc h
  refine Qa hC [.S 9 (.b false),.n 4,.o (.c false [.d,.d,.d] (.b H)),.n 3,.K [1,16] [1]] rfl ⟨(tc_ j),(QcX _ _ _ y)⟩ ?_
  cases h
  exact AK.met rfl
 rintro σ rfl
 replace h:Qe4 f u=some r:=h
 refine tg_ hC [.n 1] rfl ?_
 refine bg_ h (fun k h=>Qa hC [.T,.n 7,.K [2] []] rfl ⟨tt_,k⟩ ?_) fun k h=>Qa hC [.F,.n 11,.v (.bd []) [] (.sl 1 (([f.Open,f.Done,f.Failed]:List Int).map Qq)),.o (.ln ([f.Open,f.Done,f.Failed]:List Int).length),.n 4,.K [1,23,24,25] [1]] rfl ⟨⟨⟨tt_,k⟩,rfl⟩,Qj⟩ ?_
 ·cases h
  exact d1_ rfl rfl tt_
 obtain⟨z,l,h⟩:=Qc h
 refine AK.loop (body:=(fun st=>Qhb f st)) (fun st σ=>σ=⟨[(1,.loc 1 0 0),(23,.sl 1 (([f.Open,f.Done,f.Failed]:List Int).map Qq)),(24,.I (([f.Open,f.Done,f.Failed]:List Int).length:Int)),(25,.I st)],[(1,.var (Qaf f))]⟩) (Sum.elim (fun q e σ=>e=.ret∧σ=⟨[(2,.b false)],[]⟩) (fun q e σ=>e=.exit 0∧σ=⟨[(1,.loc 1 0 0)],[(1,.var (Qaf f))]⟩)) l rfl ?_ ?_
 ·rintro J o σ rfl h
  refine tg_ hC [.n 6] rfl ?_
  rcases QP h with⟨g,h⟩|⟨g,h⟩
  ·obtain⟨A,m,h⟩:=Qc h
   obtain⟨B,p,h⟩:=Qc h
   refine Qa hC [.T,.n 6,.o (.row (Qq A)),.n 9,.o (.c false [.d,.d,.d] (.b B)),.n 3] rfl ⟨⟨⟨tt_,g⟩,(Qan m)⟩,(QcX _ _ _ p)⟩ ?_
   refine bg_ h (fun i h=>Qa hC [.T,.n 8,.K [2] []] rfl ⟨tt_,i⟩ ?_) fun i h=>Qa hC [.F,.n 7,.K [1,23,24,25] [1]] rfl ⟨tt_,i⟩ ?_
   ·cases h
    exact QfU rfl (an_ rfl rfl)
   cases h
   exact QaF rfl rfl
  refine Qa hC [.F,.n 2,.K [1] [1]] rfl ⟨tt_,g⟩ ?_
  cases h
  exact QaC rfl (an_ rfl rfl)
 rcases z with(_ | _)
 ·replace h:Qhc=some r:=h
  rintro e σ ⟨rfl,rfl⟩
  refine tg_ hC [.n 2] rfl ?_
  cases h
  exact d1_ rfl rfl tt_
 replace h:Qhd f=some r:=h
 rintro e σ ⟨rfl,rfl⟩
 obtain⟨D,s,h⟩:=Qc h
 obtain⟨E,t,h⟩:=Qc h
 refine tg_ hC [.n 3,.K [1] [1]] rfl ?_
 refine AK.draw2 Ql hC mixed [.a .no (some ([],.agg (Qaf f))) false,.a (.c false [.d] (.I D)) none false,.N,.N,.a (.c false [.d,.d,.d] (.b E)) none false,.N] [] [] [2] [] rfl rfl rfl ⟨⟨⟨tt_,rfl⟩,(Qkb _ s)⟩,(QcX _ _ _ t)⟩ rfl (by kernel_rfl) rfl rfl rfl ?_
 refine tg_ hC [.n 2] rfl ?_
 cases h
 exact d1_ rfl rfl tt_
def Qkz (a:Qam):Option Bool:=
 (QgH a).bind fun b=>
 bif b then
 bif (decide (a.Enough≤a.Done))then
 some true
 else
 some (a.Open==0)
 else
 some false
def Qfs (a:Bool):Option Bool:=
 some a
def QjA (a:Qam):Option Bool:=
 (Qkz a).bind (fun b=>Qfs b)
theorem QkA (f){r}(h:QjA f=some r):Qf prog 51 [.agg (Qaf f)] [] (Qp (.b r) []):=by
 refine Qf.walk 17 func51 rfl rfl rfl fun C hC=>?_
 refine tg_ hC [.n 7] rfl ?_
 obtain⟨g,i,h⟩:=Qc h
 replace h:Qfs g=some r:=h
 refine AK.meetX (fun σ=>σ=⟨[(2,.b g)],[]⟩) ?_ ?_
 ·replace h:=i
  obtain⟨k,j,h⟩:=Qc h
  refine Qa hC [.n 1,.v .no [] (.agg (Qaf f)),.o (.c false [.d] (.b k)),.n 1] rfl ⟨⟨tt_,rfl⟩,(Qhe _ j)⟩ ?_
  refine bg_ h (fun a h=>Qa hC [.S 5 (.b true),.n 6] rfl (tc_ a) ?_) fun a h=>Qa hC [.S 5 (.b false),.n 13,.K [2] []] rfl (tc_ a) ?_
  ·refine bg_ h (fun e h=>Qa hC [.S 11 (.b true),.n 7,.K [2] []] rfl (tc_ e) ?_) fun e h=>Qa hC [.S 11 (.b false),.n 7,.K [2] []] rfl (tc_ e) ?_
   ·cases h
    exact AK.met rfl
   cases h
   exact AK.met rfl
  cases h
  exact AK.met rfl
 rintro σ rfl
 replace h:Qfs g=some r:=h
 refine tg_ hC [.n 2] rfl ?_
 cases h
 exact d1_ rfl rfl tt_
def QjJ (a:Qk)(b:Int)(next_2:Int):Option Bool:=
 bif (decide (a.Id≤b))then
 some true
 else
 bif (decide (next_2≤a.Id))then
 some true
 else
 bif (decide (a.Until<0))then
 some true
 else
 (QgH a.Batch).bind fun c=>
 bif (!c)then
 some true
 else
 (QjA a.Batch).bind fun d=>
 some d
def Qep (a:Qk)(c:Int)(b:Bool):Option ((Int×Int)⊕(Unit⊕Unit)):=
 bif b then
 some (.inr (.inl ()))
 else
 some (.inl (a.Id,(w64 (c+1))))
def QgI (e:(List Qk))(next_2:Int)(a:Int)(c:Int):Option ((Int×Int)⊕(Unit⊕Unit)):=
 bif (decide (c<(e.length:Int)))then
 (idx e c).bind fun b=>
 (QjJ b a next_2).bind (fun d=>Qep b c d)
 else
 some (.inr (.inr ()))
def QgJ : Option Bool:=
 some false
def QgK (a:(List Qk)):Option Bool:=
 some (decide ((a.length:Int)≤64))
def QfX (a:(List Qk))(next_2:Int):Option Bool:=
 (QU (fun st=>QgI a next_2 st.1 st.2) (0,0)).bind (Sum.elim (fun q=>QgJ) (fun q=>QgK a))
theorem QgL (f next_2){r}(h:QfX f next_2=some r):Qf prog 21 [.sl 11 (f.map Qd),.I next_2] [] (Qp (.b r) []):=by
 refine Qf.walk 46 func21 rfl rfl rfl fun C hC=>?_
 refine Qa hC [.n 14,.o (.ln f.length),.n 4,.K [0,1,5,8,9,10] []] rfl ⟨tt_,Qj⟩ ?_
 obtain⟨y,s,h⟩:=Qc h
 refine AK.loop (body:=(fun st=>QgI f next_2 st.1 st.2)) (fun st σ=>σ=⟨[(0,.sl 11 (f.map Qd)),(1,.I next_2),(5,.I st.1),(8,.sl 11 (f.map Qd)),(9,.I (f.length:Int)),(10,.I st.2)],[]⟩) (Sum.elim (fun q e σ=>e=.ret∧σ=⟨[(4,.b false)],[]⟩) (fun q e σ=>e=.exit 0∧σ=⟨[(0,.sl 11 (f.map Qd))],[]⟩)) s rfl ?_ ?_
 ·rintro ⟨z,A⟩ o σ rfl h
  refine tg_ hC [.n 6] rfl ?_
  rcases QP h with⟨m,h⟩|⟨m,h⟩
  ·obtain⟨a,t,h⟩:=Qc h
   refine Qa hC [.T,.n 6,.o (.row (Qd a)),.v .no [] (.agg (Qd a)),.n 2,.O 7 (.var (Qd a)),.n 4] rfl ⟨⟨⟨⟨tt_,m⟩,(Qan t)⟩,rfl⟩,rfl⟩ ?_
   obtain⟨p,u,h⟩:=Qc h
   replace h:Qep a A p=some o:=h
   refine AK.meetX (fun σ=>σ=⟨[(0,.sl 11 (f.map Qd)),(1,.I next_2),(7,.loc 7 0 0),(8,.sl 11 (f.map Qd)),(9,.I (f.length:Int)),(10,.I A),(39,.b p)],[(7,.var (Qd a))]⟩) ?_ ?_
   ·replace h:=u
    refine tg_ hC [.n 6] rfl ?_
    refine bg_ h (fun g h=>Qa hC [.S 18 (.b true),.n 22,.K [0,1,7,8,9,10,39] [7]] rfl (tc_ g) ?_) fun g h=>Qa hC [.S 18 (.b false),.n 6] rfl (tc_ g) ?_
    ·cases h
     exact AK.met rfl
    refine bg_ h (fun i h=>Qa hC [.S 24 (.b true),.n 16,.K [0,1,7,8,9,10,39] [7]] rfl (tc_ i) ?_) fun i h=>Qa hC [.S 24 (.b false),.n 5] rfl (tc_ i) ?_
    ·cases h
     exact AK.met rfl
    rcases QP h with⟨j,h⟩|⟨j,h⟩
    ·refine Qa hC [.S 29 (.b true),.n 11,.K [0,1,7,8,9,10,39] [7]] rfl (tc_ j) ?_
     cases h
     exact AK.met rfl
    obtain⟨B,w,h⟩:=Qc h
    refine Qa hC [.S 29 (.b false),.n 1,.v .no [] (.agg (Qaf a.Batch)),.o (.c false [.d] (.b B)),.n 3] rfl ⟨⟨(tc_ j),rfl⟩,(Qhe _ w)⟩ ?_
    rcases QP h with⟨k,h⟩|⟨k,h⟩
    ·refine Qa hC [.S 35 (.b true),.n 5,.K [0,1,7,8,9,10,39] [7]] rfl (tc_ k) ?_
     cases h
     exact AK.met rfl
    obtain⟨D,x,h⟩:=Qc h
    refine Qa hC [.S 35 (.b false),.n 1,.v .no [] (.agg (Qaf a.Batch)),.o (.c false [.d] (.b D)),.n 2,.K [0,1,7,8,9,10,39] [7]] rfl ⟨⟨(tc_ k),rfl⟩,(QkA _ x)⟩ ?_
    cases h
    exact AK.met rfl
   rintro σ rfl
   replace h:Qep a A p=some o:=h
   refine tg_ hC [.n 1] rfl ?_
   refine bg_ h (fun l h=>Qa hC [.T,.n 9,.K [4] []] rfl ⟨tt_,l⟩ ?_) fun l h=>Qa hC [.F,.n 13,.K [0,1,5,8,9,10] []] rfl ⟨tt_,l⟩ ?_
   ·cases h
    exact QfU rfl (an_ rfl rfl)
   cases h
   exact QaF rfl rfl
  refine Qa hC [.F,.n 2,.K [0] []] rfl ⟨tt_,m⟩ ?_
  cases h
  exact QaC rfl (an_ rfl rfl)
 rcases y with(_ | _)
 ·replace h:QgJ=some r:=h
  rintro e σ ⟨rfl,rfl⟩
  refine tg_ hC [.n 2] rfl ?_
  cases h
  exact d1_ rfl rfl tt_
 replace h:QgK f=some r:=h
 rintro e σ ⟨rfl,rfl⟩
 refine Qa hC [.n 5,.o (.ln f.length),.n 5] rfl ⟨tt_,Qj⟩ ?_
 cases h
 exact d1_ rfl rfl tt_
def Q9 (c:QBg)(e:QBg)(b:Int):Option (Int⊕(Unit⊕Unit)):=
 bif (decide (b<(c.length:Int)))then
 (idx c b).bind fun d=>
 (idx e b).bind fun a=>
 bif (!((d.1==a.1)&&(d.2==a.2)))then
 some (.inr (.inl ()))
 else
 some (.inl (w64 (b+1)))
 else
 some (.inr (.inr ()))
def Qa3 : Option Bool:=
 some false
def Qa4 : Option Bool:=
 some true
def QaN (a:QBg)(b:QBg):Option Bool:=
 bif ((a.length:Int) != (b.length:Int))then
 some false
 else
 (QU (fun st=>Q9 a b st) 0).bind (Sum.elim (fun q=>Qa3) (fun q=>Qa4))
theorem QeF (f j){r}(h:QaN f j=some r):Qf prog 96 [.sl 2 (f.map QB),.sl 2 (j.map QB)] [] (Qp (.b r) []):=by
 refine Qf.walk 26 func96 rfl rfl rfl fun C hC=>?_
 refine Qa hC [.n 9,.o (.ln f.length),.n 1,.o (.ln j.length),.n 3] rfl ⟨⟨tt_,Qj⟩,Qj⟩ ?_
 refine bg_ h (fun g h=>Qa hC [.T,.n 7,.K [4] []] rfl ⟨tt_,g⟩ ?_) fun g h=>Qa hC [.F,.n 6,.o (.ln f.length),.n 4,.K [0,1,12,13] []] rfl ⟨⟨tt_,g⟩,Qj⟩ ?_
 ·cases h
  exact d1_ rfl rfl tt_
 obtain⟨p,k,h⟩:=Qc h
 refine AK.loop (body:=(fun st=>Q9 f j st)) (fun st σ=>σ=⟨[(0,.sl 2 (f.map QB)),(1,.sl 2 (j.map QB)),(12,.I (f.length:Int)),(13,.I st)],[]⟩) (Sum.elim (fun q e σ=>e=.ret∧σ=⟨[(4,.b false)],[]⟩) (fun q e σ=>e=.exit 0∧σ=⟨[],[]⟩)) k rfl ?_ ?_
 ·rintro u o σ rfl h
  refine tg_ hC [.n 6] rfl ?_
  rcases QP h with⟨i,h⟩|⟨i,h⟩
  ·obtain⟨m,s,h⟩:=Qc h
   obtain⟨d,l,h⟩:=Qc h
   refine Qa hC [.T,.n 11,.K [0,1,5,12,13] []] rfl ⟨tt_,i⟩ ?_
   refine AK.draw2 Ql hC mixed [.N,.N,.a (.row (QB m)) none false,.a .no (some ([],.agg (QB m))) false,.N,.N,.a (.row (QB d)) none false,.a .no (some ([],.agg (QB d))) false,.a (.any (.b (!((m.1==d.1)&&(m.2==d.2)))) none) none false] [] [] [0,1,12,13,24] [] rfl rfl rfl ⟨⟨⟨⟨⟨tt_,(Qan s)⟩,rfl⟩,(Qan l)⟩,rfl⟩,(fun σ t v _=>Stp.neAgg rfl rfl (Qo hC.n rfl) (t _ _ rfl) (t _ _ rfl) rfl rfl (Qn0 _ _ _ _))⟩ rfl (by kernel_rfl) rfl rfl rfl ?_
   refine tg_ hC [.n 1] rfl ?_
   refine bg_ h (fun c h=>Qa hC [.T,.n 8,.K [4] []] rfl ⟨tt_,c⟩ ?_) fun c h=>Qa hC [.F,.n 7,.K [0,1,12,13] []] rfl ⟨tt_,c⟩ ?_
   ·cases h
    exact QfU rfl (an_ rfl rfl)
   cases h
   exact QaF rfl rfl
  refine Qa hC [.F,.n 2,.K [] []] rfl ⟨tt_,i⟩ ?_
  cases h
  exact QaC rfl (an_ rfl rfl)
 rcases p with(_ | _)
 ·replace h:Qa3=some r:=h
  rintro e σ ⟨rfl,rfl⟩
  refine tg_ hC [.n 2] rfl ?_
  cases h
  exact d1_ rfl rfl tt_
 replace h:Qa4=some r:=h
 rintro e σ ⟨rfl,rfl⟩
 refine tg_ hC [.n 8] rfl ?_
 cases h
 exact d1_ rfl rfl tt_
def Qe5 (a:QBg)(b:QBg):Option Bool:=
 (QaN a b).bind fun c=>
 some c
theorem Qje (e f){r}(h:Qe5 e f=some r):Qf prog 63 [.sl 2 (e.map QB),.sl 2 (f.map QB)] [] (Qp (.b r) []):=by
 refine Qf.walk 8 func63 rfl rfl rfl fun C hC=>?_
 obtain⟨g,a,h⟩:=Qc h
 refine Qa hC [.n 9,.o (.c false [.d,.d] (.b g)),.n 4] rfl ⟨tt_,(QeF _ _ a)⟩ ?_
 cases h
 exact d1_ rfl rfl tt_
def Qv (d:QMk)(e:QMk)(a:Int):Option (Int⊕(Unit⊕Unit)):=
 bif (decide (a<(d.length:Int)))then
 (idx d a).bind fun f=>
 (idx e a).bind fun b=>
 (Qe5 f b).bind fun c=>
 bif (!c)then
 some (.inr (.inl ()))
 else
 some (.inl (w64 (a+1)))
 else
 some (.inr (.inr ()))
def QY : Option Bool:=
 some false
def QZ : Option Bool:=
 some true
def QQ (a:QMk)(b:QMk):Option Bool:=
 bif ((a.length:Int) != (b.length:Int))then
 some false
 else
 (QU (fun st=>Qv a b st) 0).bind (Sum.elim (fun q=>QY) (fun q=>QZ))
theorem Qa6 (f j){r}(h:QQ f j=some r):Qf prog 62 [.sl 1 (f.map QG),.sl 1 (j.map QG),.clo (.func 63) [] []] [] (Qp (.b r) []):=by
 refine Qf.walk 32 func62 rfl rfl rfl fun C hC=>?_
 refine Qa hC [.n 9,.o (.ln f.length),.n 1,.o (.ln j.length),.n 3] rfl ⟨⟨tt_,Qj⟩,Qj⟩ ?_
 refine bg_ h (fun g h=>Qa hC [.T,.n 7,.K [6] []] rfl ⟨tt_,g⟩ ?_) fun g h=>Qa hC [.F,.n 6,.o (.ln f.length),.n 4,.K [1,2,15,16,17] []] rfl ⟨⟨tt_,g⟩,Qj⟩ ?_
 ·cases h
  exact d1_ rfl rfl tt_
 obtain⟨p,k,h⟩:=Qc h
 refine AK.loop (body:=(fun st=>Qv f j st)) (fun st σ=>σ=⟨[(1,.sl 1 (j.map QG)),(2,.clo (.func 63) [] []),(15,.sl 1 (f.map QG)),(16,.I (f.length:Int)),(17,.I st)],[]⟩) (Sum.elim (fun q e σ=>e=.ret∧σ=⟨[(6,.b false)],[]⟩) (fun q e σ=>e=.exit 0∧σ=⟨[],[]⟩)) k rfl ?_ ?_
 ·rintro w o σ rfl h
  refine tg_ hC [.n 6] rfl ?_
  rcases QP h with⟨i,h⟩|⟨i,h⟩
  ·obtain⟨v,s,h⟩:=Qc h
   obtain⟨t,l,h⟩:=Qc h
   obtain⟨u,m,h⟩:=Qc h
   refine Qa hC [.T,.n 7,.o (.row (QG v)),.n 9,.o (.row (QG t)),.n 9,.o (.c false [.d,.d] (.b u)),.n 3] rfl ⟨⟨⟨⟨tt_,i⟩,(Qan s)⟩,(Qan l)⟩,(Qje _ _ m)⟩ ?_
   refine bg_ h (fun a h=>Qa hC [.T,.n 8,.K [6] []] rfl ⟨tt_,a⟩ ?_) fun a h=>Qa hC [.F,.n 7,.K [1,2,15,16,17] []] rfl ⟨tt_,a⟩ ?_
   ·cases h
    exact QfU rfl (an_ rfl rfl)
   cases h
   exact QaF rfl rfl
  refine Qa hC [.F,.n 2,.K [] []] rfl ⟨tt_,i⟩ ?_
  cases h
  exact QaC rfl (an_ rfl rfl)
 rcases p with(_ | _)
 ·replace h:QY=some r:=h
  rintro e σ ⟨rfl,rfl⟩
  refine tg_ hC [.n 2] rfl ?_
  cases h
  exact d1_ rfl rfl tt_
 replace h:QZ=some r:=h
 rintro e σ ⟨rfl,rfl⟩
 refine tg_ hC [.n 8] rfl ?_
 cases h
 exact d1_ rfl rfl tt_
def Qal (c:(List Int))(d:(List Int))(a:Int):Option (Int⊕(Unit⊕Unit)):=
 bif (decide (a<(c.length:Int)))then
 (idx c a).bind fun e=>
 (idx d a).bind fun b=>
 bif (e != b)then
 some (.inr (.inl ()))
 else
 some (.inl (w64 (a+1)))
 else
 some (.inr (.inr ()))
def QbS : Option Bool:=
 some false
def QbT : Option Bool:=
 some true
def QaB (a:(List Int))(b:(List Int)):Option Bool:=
 bif ((a.length:Int) != (b.length:Int))then
 some false
 else
 (QU (fun st=>Qal a b st) 0).bind (Sum.elim (fun q=>QbS) (fun q=>QbT))
theorem QbU (d i){r}(h:QaB d i=some r):Qf prog 79 [.sl 1 (d.map Qq),.sl 1 (i.map Qq)] [] (Qp (.b r) []):=by
 refine Qf.walk 26 func79 rfl rfl rfl fun C hC=>?_
 refine Qa hC [.n 9,.o (.ln d.length),.n 1,.o (.ln i.length),.n 3] rfl ⟨⟨tt_,Qj⟩,Qj⟩ ?_
 refine bg_ h (fun f h=>Qa hC [.T,.n 7,.K [4] []] rfl ⟨tt_,f⟩ ?_) fun f h=>Qa hC [.F,.n 6,.o (.ln d.length),.n 4,.K [0,1,12,13] []] rfl ⟨⟨tt_,f⟩,Qj⟩ ?_
 ·cases h
  exact d1_ rfl rfl tt_
 obtain⟨l,j,h⟩:=Qc h
 refine AK.loop (body:=(fun st=>Qal d i st)) (fun st σ=>σ=⟨[(0,.sl 1 (d.map Qq)),(1,.sl 1 (i.map Qq)),(12,.I (d.length:Int)),(13,.I st)],[]⟩) (Sum.elim (fun q e σ=>e=.ret∧σ=⟨[(4,.b false)],[]⟩) (fun q e σ=>e=.exit 0∧σ=⟨[],[]⟩)) j rfl ?_ ?_
 ·rintro t o σ rfl h
  refine tg_ hC [.n 6] rfl ?_
  rcases QP h with⟨g,h⟩|⟨g,h⟩
  ·obtain⟨s,m,h⟩:=Qc h
   obtain⟨p,k,h⟩:=Qc h
   refine Qa hC [.T,.n 11,.K [0,1,5,12,13] []] rfl ⟨tt_,g⟩ ?_
   refine AK.draw2 Ql hC mixed [.N,.N,.a (.row (Qq s)) none false,.N,.N,.N,.a (.row (Qq p)) none false,.N,.N] [] [] [0,1,12,13,24] [] rfl rfl rfl ⟨⟨tt_,(Qan m)⟩,(Qan k)⟩ rfl (by kernel_rfl) rfl rfl rfl ?_
   refine tg_ hC [.n 1] rfl ?_
   refine bg_ h (fun c h=>Qa hC [.T,.n 8,.K [4] []] rfl ⟨tt_,c⟩ ?_) fun c h=>Qa hC [.F,.n 7,.K [0,1,12,13] []] rfl ⟨tt_,c⟩ ?_
   ·cases h
    exact QfU rfl (an_ rfl rfl)
   cases h
   exact QaF rfl rfl
  refine Qa hC [.F,.n 2,.K [] []] rfl ⟨tt_,g⟩ ?_
  cases h
  exact QaC rfl (an_ rfl rfl)
 rcases l with(_ | _)
 ·replace h:QbS=some r:=h
  rintro e σ ⟨rfl,rfl⟩
  refine tg_ hC [.n 2] rfl ?_
  cases h
  exact d1_ rfl rfl tt_
 replace h:QbT=some r:=h
 rintro e σ ⟨rfl,rfl⟩
 refine tg_ hC [.n 8] rfl ?_
 cases h
 exact d1_ rfl rfl tt_
def Qfk (a:Qk)(b:Qk):Option Bool:=
 bif (a.Id==b.Id)then
 bif ((a.Batch.Most==b.Batch.Most)&&((a.Batch.Enough==b.Batch.Enough)&&((a.Batch.Open==b.Batch.Open)&&((a.Batch.Done==b.Batch.Done)&&(a.Batch.Failed==b.Batch.Failed)))))then
 bif (a.Until==b.Until)then
 bif (a.Mode.Task==b.Mode.Task)then
 (QaB a.Mode.Vars b.Mode.Vars).bind fun c=>
 bif c then
 (QaB a.Mode.Ins b.Mode.Ins).bind fun d=>
 bif d then
 (QaB a.Mode.Outs b.Mode.Outs).bind fun e=>
 some e
 else
 some false
 else
 some false
 else
 some false
 else
 some false
 else
 some false
 else
 some false
def Qcc (a:Bool):Option Bool:=
 some a
def QcY (a:Qk)(b:Qk):Option Bool:=
 (Qfk a b).bind (fun c=>Qcc c)
theorem QiN (g i){r}(h:QcY g i=some r):Qf prog 65 [.agg (Qd g),.agg (Qd i)] [] (Qp (.b r) []):=by
 refine Qf.walk 58 func65 rfl rfl rfl fun C hC=>?_
 refine tg_ hC [.n 8,.K [2,3] [2,3]] rfl ?_
 refine AK.draw2 Ql hC mixed [.N,.a .no (some ([],.agg (Qaa g.Mode))) false,.a .no none true,.a .no (some ([],.agg (Qaa i.Mode))) true,.N,.N,.m .s,.m .s] [2,3] [2,3] [2,3,5,6] [2,3,5,6] rfl rfl rfl ⟨⟨tt_,rfl⟩,rfl⟩ rfl (by kernel_rfl) rfl rfl rfl ?_
 refine Qa hC [.O 5 (.var (Qaa g.Mode)),.O 6 (.var (Qaa i.Mode)),.n 2] rfl ⟨⟨tt_,rfl⟩,rfl⟩ ?_
 obtain⟨w,x,h⟩:=Qc h
 replace h:Qcc w=some r:=h
 refine AK.meetX (fun σ=>σ=⟨[(4,.b w)],[]⟩) ?_ ?_
 ·replace h:=x
  refine tg_ hC [.n 7] rfl ?_
  refine bg_ h (fun j h=>Qa hC [.S 16 (.b true),.n 1,.v .no [] (.agg (Qaf g.Batch)),.n 1,.v .no [] (.agg (Qaf i.Batch)),.o (.any (.b ((g.Batch.Most==i.Batch.Most)&&((g.Batch.Enough==i.Batch.Enough)&&((g.Batch.Open==i.Batch.Open)&&((g.Batch.Done==i.Batch.Done)&&(g.Batch.Failed==i.Batch.Failed)))))) none),.n 2] rfl ⟨⟨⟨(tc_ j),rfl⟩,rfl⟩,(fun σ B D _=>Stp.eqAgg rfl rfl (Qo hC.n rfl) (B _ _ rfl) (B _ _ rfl) rfl rfl (QnZ _ _ _ _ _ _ _ _ _ _))⟩ ?_) fun j h=>Qa hC [.S 16 (.b false),.n 43,.K [4] []] rfl (tc_ j) ?_
  ·refine bg_ h (fun k h=>Qa hC [.S 23 (.b true),.n 7] rfl (tc_ k) ?_) fun k h=>Qa hC [.S 23 (.b false),.n 36,.K [4] []] rfl (tc_ k) ?_
   ·refine bg_ h (fun l h=>Qa hC [.S 30 (.b true),.n 7] rfl (tc_ l) ?_) fun l h=>Qa hC [.S 30 (.b false),.n 29,.K [4] []] rfl (tc_ l) ?_
    ·rcases QP h with⟨p,h⟩|⟨p,h⟩
     ·obtain⟨y,q,h⟩:=Qc h
      refine Qa hC [.S 37 (.b true),.n 4,.o (.c false [.d,.d] (.b y)),.n 2] rfl ⟨(tc_ p),(QbU _ _ q)⟩ ?_
      rcases QP h with⟨e,h⟩|⟨e,h⟩
      ·obtain⟨z,t,h⟩:=Qc h
       refine Qa hC [.S 44 (.b true),.n 4,.o (.c false [.d,.d] (.b z)),.n 2] rfl ⟨(tc_ e),(QbU _ _ t)⟩ ?_
       rcases QP h with⟨f,h⟩|⟨f,h⟩
       ·obtain⟨A,u,h⟩:=Qc h
        refine Qa hC [.S 51 (.b true),.n 4,.o (.c false [.d,.d] (.b A)),.n 3,.K [4] []] rfl ⟨(tc_ f),(QbU _ _ u)⟩ ?_
        cases h
        exact AK.met rfl
       refine Qa hC [.S 51 (.b false),.n 8,.K [4] []] rfl (tc_ f) ?_
       cases h
       exact AK.met rfl
      refine Qa hC [.S 44 (.b false),.n 15,.K [4] []] rfl (tc_ e) ?_
      cases h
      exact AK.met rfl
     refine Qa hC [.S 37 (.b false),.n 22,.K [4] []] rfl (tc_ p) ?_
     cases h
     exact AK.met rfl
    cases h
    exact AK.met rfl
   cases h
   exact AK.met rfl
  cases h
  exact AK.met rfl
 rintro σ rfl
 replace h:Qcc w=some r:=h
 refine tg_ hC [.n 2] rfl ?_
 cases h
 exact d1_ rfl rfl tt_
def Qx (d:(List Qk))(e:(List Qk))(a:Int):Option (Int⊕(Unit⊕Unit)):=
 bif (decide (a<(d.length:Int)))then
 (idx d a).bind fun f=>
 (idx e a).bind fun b=>
 (QcY f b).bind fun c=>
 bif (!c)then
 some (.inr (.inl ()))
 else
 some (.inl (w64 (a+1)))
 else
 some (.inr (.inr ()))
def Q5 : Option Bool:=
 some false
def Q6 : Option Bool:=
 some true
def QT (a:(List Qk))(b:(List Qk)):Option Bool:=
 bif ((a.length:Int) != (b.length:Int))then
 some false
 else
 (QU (fun st=>Qx a b st) 0).bind (Sum.elim (fun q=>Q5) (fun q=>Q6))
theorem Qbo (g k){r}(h:QT g k=some r):Qf prog 64 [.sl 11 (g.map Qd),.sl 11 (k.map Qd),.clo (.func 65) [] []] [] (Qp (.b r) []):=by
 refine Qf.walk 32 func64 rfl rfl rfl fun C hC=>?_
 refine Qa hC [.n 9,.o (.ln g.length),.n 1,.o (.ln k.length),.n 3] rfl ⟨⟨tt_,Qj⟩,Qj⟩ ?_
 refine bg_ h (fun i h=>Qa hC [.T,.n 7,.K [6] []] rfl ⟨tt_,i⟩ ?_) fun i h=>Qa hC [.F,.n 6,.o (.ln g.length),.n 4,.K [1,2,15,16,17] []] rfl ⟨⟨tt_,i⟩,Qj⟩ ?_
 ·cases h
  exact d1_ rfl rfl tt_
 obtain⟨t,l,h⟩:=Qc h
 refine AK.loop (body:=(fun st=>Qx g k st)) (fun st σ=>σ=⟨[(1,.sl 11 (k.map Qd)),(2,.clo (.func 65) [] []),(15,.sl 11 (g.map Qd)),(16,.I (g.length:Int)),(17,.I st)],[]⟩) (Sum.elim (fun q e σ=>e=.ret∧σ=⟨[(6,.b false)],[]⟩) (fun q e σ=>e=.exit 0∧σ=⟨[],[]⟩)) l rfl ?_ ?_
 ·rintro x o σ rfl h
  refine tg_ hC [.n 6] rfl ?_
  rcases QP h with⟨j,h⟩|⟨j,h⟩
  ·obtain⟨s,u,h⟩:=Qc h
   obtain⟨f,m,h⟩:=Qc h
   obtain⟨w,p,h⟩:=Qc h
   refine Qa hC [.T,.n 7,.o (.row (Qd s)),.v .no [] (.agg (Qd s)),.n 3,.O 8 (.var (Qd s)),.n 6,.o (.row (Qd f)),.v .no [] (.agg (Qd f)),.n 2,.O 9 (.var (Qd f)),.n 5,.v .no [] (.agg (Qd s)),.v .no [] (.agg (Qd f)),.o (.c false [.d,.d] (.b w)),.n 3] rfl ⟨⟨⟨⟨⟨⟨⟨⟨⟨⟨tt_,j⟩,(Qan u)⟩,rfl⟩,rfl⟩,(Qan m)⟩,rfl⟩,rfl⟩,rfl⟩,rfl⟩,(QiN _ _ p)⟩ ?_
   refine bg_ h (fun a h=>Qa hC [.T,.n 8,.K [6] []] rfl ⟨tt_,a⟩ ?_) fun a h=>Qa hC [.F,.n 7,.K [1,2,15,16,17] []] rfl ⟨tt_,a⟩ ?_
   ·cases h
    exact QfU rfl (an_ rfl rfl)
   cases h
   exact QaF rfl rfl
  refine Qa hC [.F,.n 2,.K [] []] rfl ⟨tt_,j⟩ ?_
  cases h
  exact QaC rfl (an_ rfl rfl)
 rcases t with(_ | _)
 ·replace h:Q5=some r:=h
  rintro e σ ⟨rfl,rfl⟩
  refine tg_ hC [.n 2] rfl ?_
  cases h
  exact d1_ rfl rfl tt_
 replace h:Q6=some r:=h
 rintro e σ ⟨rfl,rfl⟩
 refine tg_ hC [.n 8] rfl ?_
 cases h
 exact d1_ rfl rfl tt_
def Qhf (a:QS)(b:QS):Option Bool:=
 bif (a.Next==b.Next)then
 bif (a.Now==b.Now)then
 (QQ a.M b.M).bind fun d=>
 bif d then
 (QT a.Items b.Items).bind fun c=>
 some c
 else
 some false
 else
 some false
 else
 some false
def Qdr (a:Bool):Option Bool:=
 some a
def QcF (a:QS)(b:QS):Option Bool:=
 (Qhf a b).bind (fun c=>Qdr c)
theorem Qds (l m){r}(h:QcF l m=some r):Qf prog 28 [.agg (Qs l),.agg (Qs m)] [] (Qp (.b r) []):=by
 refine Qf.walk 31 func28 rfl rfl rfl fun C hC=>?_
 refine tg_ hC [.n 8] rfl ?_
 obtain⟨g,i,h⟩:=Qc h
 replace h:Qdr g=some r:=h
 refine AK.meetX (fun σ=>σ=⟨[(4,.b g)],[]⟩) ?_ ?_
 ·replace h:=i
  refine tg_ hC [.n 7] rfl ?_
  refine bg_ h (fun a h=>Qa hC [.S 10 (.b true),.n 7] rfl (tc_ a) ?_) fun a h=>Qa hC [.S 10 (.b false),.n 22,.K [4] []] rfl (tc_ a) ?_
  ·rcases QP h with⟨c,h⟩|⟨c,h⟩
   ·obtain⟨o,j,h⟩:=Qc h
    refine Qa hC [.S 17 (.b true),.n 4,.cm (.fn) [] [] [] [.d,.d,.d] [] (.b o),.n 2] rfl ⟨(tc_ c),(Qa6 _ _ j)⟩ ?_
    rcases QP h with⟨e,h⟩|⟨e,h⟩
    ·obtain⟨k,f,h⟩:=Qc h
     refine Qa hC [.S 24 (.b true),.n 4,.cm (.fn) [] [] [] [.d,.d,.d] [] (.b k),.n 3,.K [4] []] rfl ⟨(tc_ e),(Qbo _ _ f)⟩ ?_
     cases h
     exact AK.met rfl
    refine Qa hC [.S 24 (.b false),.n 8,.K [4] []] rfl (tc_ e) ?_
    cases h
    exact AK.met rfl
   refine Qa hC [.S 17 (.b false),.n 15,.K [4] []] rfl (tc_ c) ?_
   cases h
   exact AK.met rfl
  cases h
  exact AK.met rfl
 rintro σ rfl
 replace h:Qdr g=some r:=h
 refine tg_ hC [.n 2] rfl ?_
 cases h
 exact d1_ rfl rfl tt_
def QjK (a:(List Qk))(o:(List Int))(b:(Int×Qap))(d:(Int×Qap))(c:(Int×QS)):Option Bool:=
 bif ((a.length:Int)==3)then
 (idx a 0).bind fun e=>
 bif (e.Id==2)then
 (idx a 2).bind fun f=>
 bif (f.Id==9)then
 (QgD a 5).bind fun g=>
 bif (g==1)then
 (QgD a 4).bind fun h=>
 bif (h==(-1))then
 (Qjz a 3).bind fun i=>
 (Qb9 i ([9,2,5]:List Int)).bind fun j=>
 bif j then
 (QfX a 10).bind fun k=>
 bif k then
 (QfX a 9).bind fun l=>
 bif (!l)then
 (Qgz a 5).bind fun m=>
 bif ((m.length:Int)==2)then
 bif ((o.length:Int)==56)then
 bif (b.2.Do==6)then
 bif (b.1==0)then
 bif (d.1==4)then
 bif (c.1==0)then
 (QcF c.2 (QS.mk ([([(1,2)]:List (Int×Int)),([]:QBg)]:List QBg) a 10 4)).bind fun n=>
 some n
 else
 some false
 else
 some false
 else
 some false
 else
 some false
 else
 some false
 else
 some false
 else
 some false
 else
 some false
 else
 some false
 else
 some false
 else
 some false
 else
 some false
 else
 some false
 else
 some false
def Qeq (a:Bool):Option Bool:=
 some a
def QfY  : Option Bool:=
 (QeQ 5 3).bind fun h=>
 (QfE ([]:List Qk) h).bind fun i=>
 (QeQ 2 3).bind fun j=>
 (QfE i j).bind fun k=>
 (QeQ 9 1).bind fun l=>
 (QfE k l).bind fun g=>
 (Qby (Qap.mk 6 0 (Qab.mk 0 ([]:(List Int)) ([]:(List Int)) ([]:(List Int))) 0)).bind fun a=>
 bif ((a.length:Int) != 56)then
 some false
 else
 (QdE a).bind fun b=>
 (chk (decide (0≤1)&&decide (1≤a.length)&&decide (a.length≤a.length))).bind fun _=>
 (QdE ((a.drop 1).take (a.length-1))).bind fun c=>
 (Qbz (QS.mk ([([(1,2)]:List (Int×Int)),([]:QBg)]:List QBg) g 10 4)).bind fun d=>
 (QfP d).bind fun e=>
 (QjK g a b c e).bind (fun f=>Qeq f)
theorem QjL  {r:Bool}(h:QfY  = some r):Qf prog 9 [] [] (Qp (.b r) []):=by
 refine Qf.walk 118 func9 rfl rfl rfl fun C hC=>?_
 obtain⟨x3,a6,h⟩:=Qc h
 obtain⟨x4,a7,h⟩:=Qc h
 obtain⟨x5,a8,h⟩:=Qc h
 obtain⟨x6,a9,h⟩:=Qc h
 obtain⟨x7,b0,h⟩:=Qc h
 obtain⟨z,b1,h⟩:=Qc h
 obtain⟨H,b2,h⟩:=Qc h
 refine Qa hC [.n 7,.o (.c false [.d,.d] (.agg (Qd x3))),.o (.co false [.n 11,.d] 11 (x4.map Qd) x4.length),.o (.c false [.d,.d] (.agg (Qd x5))),.frz 11 (x4.map Qd) [11] [],.o (.co false [.d,.d] 11 (x6.map Qd) x6.length),.o (.c false [.d,.d] (.agg (Qd x7))),.frz 13 (x6.map Qd) [13] [],.o (.co false [.d,.d] 11 (z.map Qd) z.length),.n 5,.v .no [none,none,none,some 1,some 1,some 1,none] (.agg (QF (Qap.mk 6 0 (Qab.mk 0 ([]:(List Int)) ([]:(List Int)) ([]:(List Int))) 0))),.o (.co false [.d] 1 (H.map Qi) H.length),.n 11] rfl ⟨⟨⟨⟨⟨⟨⟨⟨⟨⟨tt_,(QeR _ _ a6)⟩,⟨(Qfq _ _ a7),Qj,.inl rfl⟩⟩,(QeR _ _ a8)⟩,⟨tt_,(Qb4 Qj)⟩⟩,⟨(Qfq _ _ a9),Qj,.inl rfl⟩⟩,(QeR _ _ b0)⟩,⟨tt_,(Qb4 Qj)⟩⟩,⟨(Qfq _ _ b1),Qj,.inl rfl⟩⟩,rfl⟩,⟨(QbD _ b2),Qj,.inl rfl⟩⟩ ?_
 rcases QP h with⟨a,h⟩|⟨a,h⟩
 ·refine Qa hC [.T,.n 7] rfl ⟨tt_,a⟩ ?_
  cases h
  exact d1_ rfl rfl tt_
 obtain⟨A,J,h⟩:=Qc h
 obtain⟨y,h⟩:=Qb5 h
 obtain⟨B,L,h⟩:=Qc h
 obtain⟨D,M,h⟩:=Qc h
 obtain⟨x,N,h⟩:=Qc h
 refine Qa hC [.F,.n 5,.frz 17 (H.map Qi) [2,17,18,22] [],.o (.c false [.d] (.tup [.agg (QF A.2),.I A.1])),.n 5,.O 3 (.var (QF A.2)),.n 6,.o (.any (.sl 1 (((H.drop 1).take (H.length-1)).map Qi)) none),.o (.c false [.d] (.tup [.agg (QF B.2),.I B.1])),.n 5,.O 5 (.var (QF B.2)),.n 5,.v .no [] (.agg (QB (1,2))),.v (.bd []) [] (.sl 2 (([(1,2)]:List (Int×Int)).map QB)),.v (.bd [none,some 2]) [] (.sl 1 (([([(1,2)]:List (Int×Int)),([]:QBg)]:List QBg).map QG)),.n 1,.v .no [] (.agg [.sl 1 (([([(1,2)]:List (Int×Int)),([]:QBg)]:List QBg).map QG),.own 15 z.length,.I 10,.I 4]),.n 2,.O 7 (.var [.sl 1 (([([(1,2)]:List (Int×Int)),([]:QBg)]:List QBg).map QG),.own 15 z.length,.I 10,.I 4]),.n 5,.frz 15 (z.map Qd) [1,15,35,36,38] [7],.cm (.fn) [] [(39,600)] [] [.d] [(600,.arr 1 (D.map Qi))] (.own 600 D.length),.frz 39 (D.map Qi) [39] [],.o (.c false [.d] (.tup [.agg (Qs x.2),.I x.1])),.n 5,.O 8 (.var (Qs x.2)),.n 4] rfl ⟨⟨⟨⟨⟨⟨⟨⟨⟨⟨⟨⟨⟨⟨⟨⟨⟨tt_,a⟩,⟨⟨⟨⟨tt_,(Qb4 Qj)⟩,(Qb4 Qj)⟩,(Qb4 Qj)⟩,(Qb4 Qj)⟩⟩,(Qew _ J)⟩,rfl⟩,(fun σ h1 h2 _=>Stp.sliceD rfl rfl (Qo hC.n rfl) (h1 _ _ rfl) (Ql.es rfl) (Bnd.val (h1 _ _ rfl) (QbC (Qlp y)) rfl) (Bnd.none_ Qj) (QbC (Qlq y)) (Nat.le_of_eq Qj.symm) QmD)⟩,(Qew _ L)⟩,rfl⟩,rfl⟩,rfl⟩,rfl⟩,rfl⟩,rfl⟩,⟨⟨⟨⟨⟨⟨tt_,(Qb4 Qj)⟩,(Qb4 Qj)⟩,(Qb4 Qj)⟩,⟨(Qb4 Qj),tt_⟩⟩,⟨(Qb4 Qj),tt_⟩⟩,⟨(Qb4 Qj),tt_⟩⟩⟩,(QaZ _ M)⟩,⟨tt_,(Qb4 Qj)⟩⟩,(QhP _ N)⟩,rfl⟩ ?_
 obtain⟨E,P,h⟩:=Qc h
 replace h:Qeq E=some r:=h
 refine AK.meetX (fun σ=>σ=⟨[(0,.b E)],[]⟩) ?_ ?_
 ·replace h:=P
  refine Qa hC [.n 2,.o (.ln z.length),.n 2] rfl ⟨tt_,Qj⟩ ?_
  rcases QP h with⟨e,h⟩|⟨e,h⟩
  ·obtain⟨b3,U,h⟩:=Qc h
   refine Qa hC [.S 46 (.b true),.n 1,.o (.row (Qd b3)),.n 5] rfl ⟨(tc_ e),(Qan U)⟩ ?_
   rcases QP h with⟨f,h⟩|⟨f,h⟩
   ·obtain⟨b4,W,h⟩:=Qc h
    refine Qa hC [.S 53 (.b true),.n 1,.o (.row (Qd b4)),.n 5] rfl ⟨(tc_ f),(Qan W)⟩ ?_
    rcases QP h with⟨g,h⟩|⟨g,h⟩
    ·obtain⟨b5,X,h⟩:=Qc h
     refine Qa hC [.S 60 (.b true),.n 1,.o (.c false [.d,.d] (.I b5)),.n 3] rfl ⟨(tc_ g),(Qha _ _ X)⟩ ?_
     rcases QP h with⟨i,h⟩|⟨i,h⟩
     ·obtain⟨b6,Y,h⟩:=Qc h
      refine Qa hC [.S 65 (.b true),.n 1,.o (.c false [.d,.d] (.I b6)),.n 3] rfl ⟨(tc_ i),(Qha _ _ Y)⟩ ?_
      rcases QP h with⟨j,h⟩|⟨j,h⟩
      ·obtain⟨G,Z,h⟩:=Qc h
       obtain⟨b7,a0,h⟩:=Qc h
       refine Qa hC [.S 70 (.b true),.n 1,.o (.co false [.d,.d] 1 (G.map Qq) G.length),.v (.bd []) [] (.sl 1 (([9,2,5]:List Int).map Qq)),.o (.c true [.o (G.map Qq),.d] (.b b7)),.n 2] rfl ⟨⟨⟨(tc_ j),⟨(Qky (fun _=>0) _ _ Z),Qj,.inl rfl⟩⟩,rfl⟩,⟨(Qob rfl),(Qdq _ _ a0)⟩⟩ ?_
       rcases QP h with⟨k,h⟩|⟨k,h⟩
       ·obtain⟨b8,a1,h⟩:=Qc h
        refine Qa hC [.S 76 (.b true),.n 1,.o (.c false [.d,.d] (.b b8)),.n 2] rfl ⟨(tc_ k),(QgL _ _ a1)⟩ ?_
        rcases QP h with⟨l,h⟩|⟨l,h⟩
        ·obtain⟨b9,a2,h⟩:=Qc h
         refine Qa hC [.S 80 (.b true),.n 1,.o (.c false [.d,.d] (.b b9)),.n 3] rfl ⟨(tc_ l),(QgL _ _ a2)⟩ ?_
         rcases QP h with⟨m,h⟩|⟨m,h⟩
         ·obtain⟨a3,a4,h⟩:=Qc h
          refine Qa hC [.S 85 (.b true),.n 1,.o (.co false [.d,.d] 11 (a3.map Qd) a3.length),.n 4] rfl ⟨(tc_ m),⟨(Qg7 _ _ a4),Qj,.inl rfl⟩⟩ ?_
          refine bg_ h (fun p h=>Qa hC [.S 91 (.b true),.n 1,.o (.ln H.length),.n 3] rfl ⟨(tc_ p),Qj⟩ ?_) fun p h=>Qa hC [.S 91 (.b false),.n 28,.K [0] []] rfl (tc_ p) ?_
          ·refine bg_ h (fun q h=>Qa hC [.S 96 (.b true),.n 5] rfl (tc_ q) ?_) fun q h=>Qa hC [.S 96 (.b false),.n 23,.K [0] []] rfl (tc_ q) ?_
           ·refine bg_ h (fun s h=>Qa hC [.S 101 (.b true),.n 4] rfl (tc_ s) ?_) fun s h=>Qa hC [.S 101 (.b false),.n 18,.K [0] []] rfl (tc_ s) ?_
            ·refine bg_ h (fun t h=>Qa hC [.S 105 (.b true),.n 4] rfl (tc_ t) ?_) fun t h=>Qa hC [.S 105 (.b false),.n 14,.K [0] []] rfl (tc_ t) ?_
             ·refine bg_ h (fun u h=>Qa hC [.S 109 (.b true),.n 4] rfl (tc_ u) ?_) fun u h=>Qa hC [.S 109 (.b false),.n 10,.K [0] []] rfl (tc_ u) ?_
              ·rcases QP h with⟨w,h⟩|⟨w,h⟩
               ·obtain⟨c0,a5,h⟩:=Qc h
                refine Qa hC [.S 113 (.b true),.v .no [] (.agg (Qs x.2)),.v .no [] (.agg (Qs (QS.mk ([([(1,2)]:List (Int×Int)),([]:QBg)]:List QBg) z 10 4))),.o (.c false [.d,.d] (.b c0)),.n 3,.K [0] []] rfl ⟨⟨⟨(tc_ w),rfl⟩,rfl⟩,(Qds _ _ a5)⟩ ?_
                cases h
                exact AK.met rfl
               refine Qa hC [.S 113 (.b false),.n 6,.K [0] []] rfl (tc_ w) ?_
               cases h
               exact AK.met rfl
              cases h
              exact AK.met rfl
             cases h
             exact AK.met rfl
            cases h
            exact AK.met rfl
           cases h
           exact AK.met rfl
          cases h
          exact AK.met rfl
         refine Qa hC [.S 85 (.b false),.n 34,.K [0] []] rfl (tc_ m) ?_
         cases h
         exact AK.met rfl
        refine Qa hC [.S 80 (.b false),.n 39,.K [0] []] rfl (tc_ l) ?_
        cases h
        exact AK.met rfl
       refine Qa hC [.S 76 (.b false),.n 43,.K [0] []] rfl (tc_ k) ?_
       cases h
       exact AK.met rfl
      refine Qa hC [.S 70 (.b false),.n 49,.K [0] []] rfl (tc_ j) ?_
      cases h
      exact AK.met rfl
     refine Qa hC [.S 65 (.b false),.n 54,.K [0] []] rfl (tc_ i) ?_
     cases h
     exact AK.met rfl
    refine Qa hC [.S 60 (.b false),.n 59,.K [0] []] rfl (tc_ g) ?_
    cases h
    exact AK.met rfl
   refine Qa hC [.S 53 (.b false),.n 66,.K [0] []] rfl (tc_ f) ?_
   cases h
   exact AK.met rfl
  refine Qa hC [.S 46 (.b false),.n 73,.K [0] []] rfl (tc_ e) ?_
  cases h
  exact AK.met rfl
 rintro σ rfl
 replace h:Qeq E=some r:=h
 refine tg_ hC [.n 2] rfl ?_
 cases h
 exact d1_ rfl rfl tt_
def Qbq (b:(List Qk))(f:Int)(a:Int):Option ((Int×Int)⊕Int):=
 bif (decide (a<(b.length:Int)))then
 (idx b a).bind fun c=>
 (idx b a).bind fun d=>
 (idx b a).bind fun e=>
 some (.inl ((w64 ((w64 ((w64 (f+(c.Mode.Vars.length:Int)))+(d.Mode.Ins.length:Int)))+(e.Mode.Outs.length:Int))),(w64 (a+1))))
 else
 some (.inr f)
def QhT (a:Int):Option Bool:=
 some (decide (a≤1000))
def Qd7 (a:(List Qk)):Option Bool:=
 bif (decide (80<(a.length:Int)))then
 some false
 else
 (QU (fun st=>Qbq a st.1 st.2) (0,0)).bind (fun q=>QhT q)
theorem QhU (f){r}(h:Qd7 f=some r):Qf prog 10 [.sl 11 (f.map Qd)] [] (Qp (.b r) []):=by
 refine Qf.walk 41 func10 rfl rfl rfl fun C hC=>?_
 refine Qa hC [.n 9,.o (.ln f.length),.n 3] rfl ⟨tt_,Qj⟩ ?_
 refine bg_ h (fun d h=>Qa hC [.T,.n 7,.K [2] []] rfl ⟨tt_,d⟩ ?_) fun d h=>Qa hC [.F,.n 14,.K [0,3,4] []] rfl ⟨tt_,d⟩ ?_
 ·cases h
  exact d1_ rfl rfl tt_
 obtain⟨u,g,h⟩:=Qc h
 refine AK.loop (body:=(fun st=>Qbq f st.1 st.2)) (fun st σ=>σ=⟨[(0,.sl 11 (f.map Qd)),(3,.I st.1),(4,.I st.2)],[]⟩) (fun q e σ=>e=.exit 0∧σ=⟨[(3,.I q)],[]⟩) g rfl ?_ ?_
 ·rintro ⟨v,w⟩ o σ rfl h
  refine Qa hC [.n 5,.o (.ln f.length),.n 3] rfl ⟨tt_,Qj⟩ ?_
  rcases QP h with⟨c,h⟩|⟨c,h⟩
  ·obtain⟨i,j,h⟩:=Qc h
   obtain⟨k,l,h⟩:=Qc h
   obtain⟨p,t,h⟩:=Qc h
   refine Qa hC [.T,.n 4,.K [0,3,4] []] rfl ⟨tt_,c⟩ ?_
   refine AK.draw2 Ql hC mixed [.N,.N,.N,.a (.row (Qd i)) none false,.N,.N,.N,.a (.ln i.Mode.Vars.length) none false,.N,.N,.N,.a (.row (Qd k)) none false,.N,.N,.N,.a (.ln k.Mode.Ins.length) none false,.N,.N,.N,.a (.row (Qd p)) none false,.N,.N,.N,.a (.ln p.Mode.Outs.length) none false,.N,.m .s] [] [] [0,3,4] [] rfl rfl rfl ⟨⟨⟨⟨⟨⟨tt_,(Qan j)⟩,Qj⟩,(Qan l)⟩,Qj⟩,(Qan t)⟩,Qj⟩ rfl (by kernel_rfl) rfl rfl rfl ?_
   refine tg_ hC [.n 7,.K [0,3,4] []] rfl ?_
   cases h
   exact QaF rfl rfl
  refine Qa hC [.F,.n 2,.K [3] []] rfl ⟨tt_,c⟩ ?_
  cases h
  exact QaC rfl (an_ rfl rfl)
 replace h:QhT u=some r:=h
 rintro e σ ⟨rfl,rfl⟩
 refine tg_ hC [.n 10] rfl ?_
 cases h
 exact d1_ rfl rfl tt_
def Qbr (c:QMk)(d:Int)(a:Int):Option ((Int×Int)⊕Int):=
 bif ((decide (a<(c.length:Int)))&&(decide (a<100)))then
 (idx c a).bind fun b=>
 some (.inl ((w64 (d+(b.length:Int))),(w64 (a+1))))
 else
 some (.inr d)
def QhV (a:QMk)(b:Int):Option Bool:=
 some ((decide ((a.length:Int)≤70))&&(decide (b≤300)))
def Qd8 (a:QMk):Option Bool:=
 (QU (fun st=>Qbr a st.1 st.2) (0,0)).bind (fun q=>QhV a q)
theorem QhW (a){r}(h:Qd8 a=some r):Qf prog 23 [.sl 1 (a.map QG)] [] (Qp (.b r) []):=by
 refine Qf.walk 29 func23 rfl rfl rfl fun C hC=>?_
 refine tg_ hC [.n 17,.K [0,3,4] []] rfl ?_
 obtain⟨l,i,h⟩:=Qc h
 refine AK.loop (body:=(fun st=>Qbr a st.1 st.2)) (fun st σ=>σ=⟨[(0,.sl 1 (a.map QG)),(3,.I st.1),(4,.I st.2)],[]⟩) (fun q e σ=>e=.exit 0∧σ=⟨[(0,.sl 1 (a.map QG)),(3,.I q)],[]⟩) i rfl ?_ ?_
 ·rintro ⟨m,g⟩ o σ rfl h
  refine tg_ hC [.n 2] rfl ?_
  refine AK.meetX (fun σ=>σ=⟨[(0,.sl 1 (a.map QG)),(3,.I m),(4,.I g),(12,.b ((decide (g<(a.length:Int)))&&(decide (g<100))))],[]⟩) ?_ ?_
  ·refine Qa hC [.n 3,.o (.ln a.length),.n 2] rfl ⟨tt_,Qj⟩ ?_
   rcases QbM (decide (g<(a.length:Int)))with d | d
   ·refine Qa hC [.S 9 (.b true),.n 4,.S 12 (.b ((decide (g<(a.length:Int)))&&(decide (g<100)))),.K [0,3,4,12] []] rfl ⟨(tc_ d),(congrArg V.b (Qid d rfl))⟩ ?_
    exact AK.met rfl
   refine Qa hC [.S 9 (.b false),.n 4,.S 12 (.b ((decide (g<(a.length:Int)))&&(decide (g<100)))),.K [0,3,4,12] []] rfl ⟨(tc_ d),(congrArg V.b (Qie d rfl))⟩ ?_
   exact AK.met rfl
  rintro σ rfl
  refine tg_ hC [.n 1] rfl ?_
  rcases QP h with⟨f,h⟩|⟨f,h⟩
  ·obtain⟨j,k,h⟩:=Qc h
   refine Qa hC [.T,.n 8,.o (.row (QG j)),.n 1,.o (.ln j.length),.n 10,.K [0,3,4] []] rfl ⟨⟨⟨tt_,f⟩,(Qan k)⟩,Qj⟩ ?_
   cases h
   exact QaF rfl rfl
  refine Qa hC [.F,.n 2,.K [0,3] []] rfl ⟨tt_,f⟩ ?_
  cases h
  exact QaC rfl (an_ rfl rfl)
 replace h:QhV a l=some r:=h
 rintro e σ ⟨rfl,rfl⟩
 refine tg_ hC [.n 3] rfl ?_
 refine AK.meetX (fun σ=>σ=⟨[(2,.b ((decide ((a.length:Int)≤70))&&(decide (l≤300))))],[]⟩) ?_ ?_
 ·refine Qa hC [.n 2,.o (.ln a.length),.n 2] rfl ⟨tt_,Qj⟩ ?_
  rcases QbM (decide ((a.length:Int)≤70))with c | c
  ·refine Qa hC [.S 25 (.b true),.n 5,.S 2 (.b ((decide ((a.length:Int)≤70))&&(decide (l≤300)))),.K [2] []] rfl ⟨(tc_ c),(congrArg V.b (Qid c rfl))⟩ ?_
   exact AK.met rfl
  refine Qa hC [.S 25 (.b false),.n 5,.S 2 (.b ((decide ((a.length:Int)≤70))&&(decide (l≤300)))),.K [2] []] rfl ⟨(tc_ c),(congrArg V.b (Qie c rfl))⟩ ?_
  exact AK.met rfl
 rintro σ rfl
 refine tg_ hC [.n 2] rfl ?_
 cases h
 exact d1_ rfl rfl tt_
def Qd9 (a:Int):Option (List Int):=
 (chk (decide (([]:List Int).length+([(IntKind.u8.wrap (Qr .u64 (IntKind.u64.wrap a) 56)),(IntKind.u8.wrap (Qr .u64 (IntKind.u64.wrap a) 48)),(IntKind.u8.wrap (Qr .u64 (IntKind.u64.wrap a) 40)),(IntKind.u8.wrap (Qr .u64 (IntKind.u64.wrap a) 32)),(IntKind.u8.wrap (Qr .u64 (IntKind.u64.wrap a) 24)),(IntKind.u8.wrap (Qr .u64 (IntKind.u64.wrap a) 16)),(IntKind.u8.wrap (Qr .u64 (IntKind.u64.wrap a) 8)),(IntKind.u8.wrap (IntKind.u64.wrap a))]:List Int).length≤4294967296))).bind fun _=>
 some (([]:List Int)++([(IntKind.u8.wrap (Qr .u64 (IntKind.u64.wrap a) 56)),(IntKind.u8.wrap (Qr .u64 (IntKind.u64.wrap a) 48)),(IntKind.u8.wrap (Qr .u64 (IntKind.u64.wrap a) 40)),(IntKind.u8.wrap (Qr .u64 (IntKind.u64.wrap a) 32)),(IntKind.u8.wrap (Qr .u64 (IntKind.u64.wrap a) 24)),(IntKind.u8.wrap (Qr .u64 (IntKind.u64.wrap a) 16)),(IntKind.u8.wrap (Qr .u64 (IntKind.u64.wrap a) 8)),(IntKind.u8.wrap (IntKind.u64.wrap a))]:List Int))
theorem QhX (a){r}(h:Qd9 a=some r):Qf prog 59 [.lit (.slice none 0 0),.I a] [] (Qp (.own 600 r.length) [(600,.arr 1 (r.map Qi))]):=by
 refine Qf.walk 34 func59 rfl rfl rfl fun C hC=>?_
 obtain⟨d,h⟩:=Qb5 h
 refine Qa hC [.n 8,.o (.any (.i .u64 (IntKind.u64.wrap a)) none),.n 7,.o (.any (.i .u64 (Qr .u64 (IntKind.u64.wrap a) 56)) none),.o (.any (.i .u8 (IntKind.u8.wrap (Qr .u64 (IntKind.u64.wrap a) 56))) none),.n 1,.o (.any (.i .u64 (Qr .u64 (IntKind.u64.wrap a) 48)) none),.o (.any (.i .u8 (IntKind.u8.wrap (Qr .u64 (IntKind.u64.wrap a) 48))) none),.n 1,.o (.any (.i .u64 (Qr .u64 (IntKind.u64.wrap a) 40)) none),.o (.any (.i .u8 (IntKind.u8.wrap (Qr .u64 (IntKind.u64.wrap a) 40))) none),.n 1,.o (.any (.i .u64 (Qr .u64 (IntKind.u64.wrap a) 32)) none),.o (.any (.i .u8 (IntKind.u8.wrap (Qr .u64 (IntKind.u64.wrap a) 32))) none),.n 1,.o (.any (.i .u64 (Qr .u64 (IntKind.u64.wrap a) 24)) none),.o (.any (.i .u8 (IntKind.u8.wrap (Qr .u64 (IntKind.u64.wrap a) 24))) none),.n 1,.o (.any (.i .u64 (Qr .u64 (IntKind.u64.wrap a) 16)) none),.o (.any (.i .u8 (IntKind.u8.wrap (Qr .u64 (IntKind.u64.wrap a) 16))) none),.n 1,.o (.any (.i .u64 (Qr .u64 (IntKind.u64.wrap a) 8)) none),.o (.any (.i .u8 (IntKind.u8.wrap (Qr .u64 (IntKind.u64.wrap a) 8))) none),.n 1,.o (.any (.i .u8 (IntKind.u8.wrap (IntKind.u64.wrap a))) none),.v (.bd []) [] (.sl 1 (([(IntKind.u8.wrap (Qr .u64 (IntKind.u64.wrap a) 56)),(IntKind.u8.wrap (Qr .u64 (IntKind.u64.wrap a) 48)),(IntKind.u8.wrap (Qr .u64 (IntKind.u64.wrap a) 40)),(IntKind.u8.wrap (Qr .u64 (IntKind.u64.wrap a) 32)),(IntKind.u8.wrap (Qr .u64 (IntKind.u64.wrap a) 24)),(IntKind.u8.wrap (Qr .u64 (IntKind.u64.wrap a) 16)),(IntKind.u8.wrap (Qr .u64 (IntKind.u64.wrap a) 8)),(IntKind.u8.wrap (IntKind.u64.wrap a))]:List Int).map Qi)),.adopt 8 8 1,.O 8 (.arr 1 (([]:List Int).map Qi)),.S 8 (.own 8 ([]:List Int).length),.app ((([]:List Int)++([(IntKind.u8.wrap (Qr .u64 (IntKind.u64.wrap a) 56)),(IntKind.u8.wrap (Qr .u64 (IntKind.u64.wrap a) 48)),(IntKind.u8.wrap (Qr .u64 (IntKind.u64.wrap a) 40)),(IntKind.u8.wrap (Qr .u64 (IntKind.u64.wrap a) 32)),(IntKind.u8.wrap (Qr .u64 (IntKind.u64.wrap a) 24)),(IntKind.u8.wrap (Qr .u64 (IntKind.u64.wrap a) 16)),(IntKind.u8.wrap (Qr .u64 (IntKind.u64.wrap a) 8)),(IntKind.u8.wrap (IntKind.u64.wrap a))]:List Int)).map Qi) (([]:List Int)++([(IntKind.u8.wrap (Qr .u64 (IntKind.u64.wrap a) 56)),(IntKind.u8.wrap (Qr .u64 (IntKind.u64.wrap a) 48)),(IntKind.u8.wrap (Qr .u64 (IntKind.u64.wrap a) 40)),(IntKind.u8.wrap (Qr .u64 (IntKind.u64.wrap a) 32)),(IntKind.u8.wrap (Qr .u64 (IntKind.u64.wrap a) 24)),(IntKind.u8.wrap (Qr .u64 (IntKind.u64.wrap a) 16)),(IntKind.u8.wrap (Qr .u64 (IntKind.u64.wrap a) 8)),(IntKind.u8.wrap (IntKind.u64.wrap a))]:List Int)).length,.n 4,.K [4] [8],.ren 8 600] rfl ⟨⟨⟨⟨⟨⟨⟨⟨⟨⟨⟨⟨⟨⟨⟨⟨⟨⟨⟨⟨tt_,(fun σ b c _=>Stp.convI rfl rfl (Qo hC.n rfl) (b _ _ rfl) QlD QaE)⟩,(fun σ b c _=>Stp.shr rfl rfl (Qo hC.n rfl) (b _ _ rfl) (b _ _ rfl) (by decide))⟩,(fun σ b c _=>Stp.convI rfl rfl (Qo hC.n rfl) (b _ _ rfl) QaE QaP)⟩,(fun σ b c _=>Stp.shr rfl rfl (Qo hC.n rfl) (b _ _ rfl) (b _ _ rfl) (by decide))⟩,(fun σ b c _=>Stp.convI rfl rfl (Qo hC.n rfl) (b _ _ rfl) QaE QaP)⟩,(fun σ b c _=>Stp.shr rfl rfl (Qo hC.n rfl) (b _ _ rfl) (b _ _ rfl) (by decide))⟩,(fun σ b c _=>Stp.convI rfl rfl (Qo hC.n rfl) (b _ _ rfl) QaE QaP)⟩,(fun σ b c _=>Stp.shr rfl rfl (Qo hC.n rfl) (b _ _ rfl) (b _ _ rfl) (by decide))⟩,(fun σ b c _=>Stp.convI rfl rfl (Qo hC.n rfl) (b _ _ rfl) QaE QaP)⟩,(fun σ b c _=>Stp.shr rfl rfl (Qo hC.n rfl) (b _ _ rfl) (b _ _ rfl) (by decide))⟩,(fun σ b c _=>Stp.convI rfl rfl (Qo hC.n rfl) (b _ _ rfl) QaE QaP)⟩,(fun σ b c _=>Stp.shr rfl rfl (Qo hC.n rfl) (b _ _ rfl) (b _ _ rfl) (by decide))⟩,(fun σ b c _=>Stp.convI rfl rfl (Qo hC.n rfl) (b _ _ rfl) QaE QaP)⟩,(fun σ b c _=>Stp.shr rfl rfl (Qo hC.n rfl) (b _ _ rfl) (b _ _ rfl) (by decide))⟩,(fun σ b c _=>Stp.convI rfl rfl (Qo hC.n rfl) (b _ _ rfl) QaE QaP)⟩,(fun σ b c _=>Stp.convI rfl rfl (Qo hC.n rfl) (b _ _ rfl) QaE QaP)⟩,rfl⟩,rfl⟩,rfl⟩,⟨Qj,Qc6 d Qj,QbY,Qeg Qj⟩⟩ ?_
 cases h
 exact d1_ rfl rfl ⟨rfl,tt_⟩
def QM (b:(List Int))(a:Int):Option (List Int):=
 (chk (decide (b.length+([(IntKind.u8.wrap (Qr .u64 (IntKind.u64.wrap a) 56)),(IntKind.u8.wrap (Qr .u64 (IntKind.u64.wrap a) 48)),(IntKind.u8.wrap (Qr .u64 (IntKind.u64.wrap a) 40)),(IntKind.u8.wrap (Qr .u64 (IntKind.u64.wrap a) 32)),(IntKind.u8.wrap (Qr .u64 (IntKind.u64.wrap a) 24)),(IntKind.u8.wrap (Qr .u64 (IntKind.u64.wrap a) 16)),(IntKind.u8.wrap (Qr .u64 (IntKind.u64.wrap a) 8)),(IntKind.u8.wrap (IntKind.u64.wrap a))]:List Int).length≤4294967296))).bind fun _=>
 some (b++([(IntKind.u8.wrap (Qr .u64 (IntKind.u64.wrap a) 56)),(IntKind.u8.wrap (Qr .u64 (IntKind.u64.wrap a) 48)),(IntKind.u8.wrap (Qr .u64 (IntKind.u64.wrap a) 40)),(IntKind.u8.wrap (Qr .u64 (IntKind.u64.wrap a) 32)),(IntKind.u8.wrap (Qr .u64 (IntKind.u64.wrap a) 24)),(IntKind.u8.wrap (Qr .u64 (IntKind.u64.wrap a) 16)),(IntKind.u8.wrap (Qr .u64 (IntKind.u64.wrap a) 8)),(IntKind.u8.wrap (IntKind.u64.wrap a))]:List Int))
theorem QH (d a){r}(h:QM d a=some r):Qf prog 59 [.own 605 d.length,.I a] [(605,.arr 1 (d.map Qi))] (Qp (.own 605 r.length) [(605,.arr 1 (r.map Qi))]):=by
 refine Qf.walk 34 func59 rfl rfl rfl fun C hC=>?_
 obtain⟨e,h⟩:=Qb5 h
 refine Qa hC [.n 8,.o (.any (.i .u64 (IntKind.u64.wrap a)) none),.n 7,.o (.any (.i .u64 (Qr .u64 (IntKind.u64.wrap a) 56)) none),.o (.any (.i .u8 (IntKind.u8.wrap (Qr .u64 (IntKind.u64.wrap a) 56))) none),.n 1,.o (.any (.i .u64 (Qr .u64 (IntKind.u64.wrap a) 48)) none),.o (.any (.i .u8 (IntKind.u8.wrap (Qr .u64 (IntKind.u64.wrap a) 48))) none),.n 1,.o (.any (.i .u64 (Qr .u64 (IntKind.u64.wrap a) 40)) none),.o (.any (.i .u8 (IntKind.u8.wrap (Qr .u64 (IntKind.u64.wrap a) 40))) none),.n 1,.o (.any (.i .u64 (Qr .u64 (IntKind.u64.wrap a) 32)) none),.o (.any (.i .u8 (IntKind.u8.wrap (Qr .u64 (IntKind.u64.wrap a) 32))) none),.n 1,.o (.any (.i .u64 (Qr .u64 (IntKind.u64.wrap a) 24)) none),.o (.any (.i .u8 (IntKind.u8.wrap (Qr .u64 (IntKind.u64.wrap a) 24))) none),.n 1,.o (.any (.i .u64 (Qr .u64 (IntKind.u64.wrap a) 16)) none),.o (.any (.i .u8 (IntKind.u8.wrap (Qr .u64 (IntKind.u64.wrap a) 16))) none),.n 1,.o (.any (.i .u64 (Qr .u64 (IntKind.u64.wrap a) 8)) none),.o (.any (.i .u8 (IntKind.u8.wrap (Qr .u64 (IntKind.u64.wrap a) 8))) none),.n 1,.o (.any (.i .u8 (IntKind.u8.wrap (IntKind.u64.wrap a))) none),.v (.bd []) [] (.sl 1 (([(IntKind.u8.wrap (Qr .u64 (IntKind.u64.wrap a) 56)),(IntKind.u8.wrap (Qr .u64 (IntKind.u64.wrap a) 48)),(IntKind.u8.wrap (Qr .u64 (IntKind.u64.wrap a) 40)),(IntKind.u8.wrap (Qr .u64 (IntKind.u64.wrap a) 32)),(IntKind.u8.wrap (Qr .u64 (IntKind.u64.wrap a) 24)),(IntKind.u8.wrap (Qr .u64 (IntKind.u64.wrap a) 16)),(IntKind.u8.wrap (Qr .u64 (IntKind.u64.wrap a) 8)),(IntKind.u8.wrap (IntKind.u64.wrap a))]:List Int).map Qi)),.app ((d++([(IntKind.u8.wrap (Qr .u64 (IntKind.u64.wrap a) 56)),(IntKind.u8.wrap (Qr .u64 (IntKind.u64.wrap a) 48)),(IntKind.u8.wrap (Qr .u64 (IntKind.u64.wrap a) 40)),(IntKind.u8.wrap (Qr .u64 (IntKind.u64.wrap a) 32)),(IntKind.u8.wrap (Qr .u64 (IntKind.u64.wrap a) 24)),(IntKind.u8.wrap (Qr .u64 (IntKind.u64.wrap a) 16)),(IntKind.u8.wrap (Qr .u64 (IntKind.u64.wrap a) 8)),(IntKind.u8.wrap (IntKind.u64.wrap a))]:List Int)).map Qi) (d++([(IntKind.u8.wrap (Qr .u64 (IntKind.u64.wrap a) 56)),(IntKind.u8.wrap (Qr .u64 (IntKind.u64.wrap a) 48)),(IntKind.u8.wrap (Qr .u64 (IntKind.u64.wrap a) 40)),(IntKind.u8.wrap (Qr .u64 (IntKind.u64.wrap a) 32)),(IntKind.u8.wrap (Qr .u64 (IntKind.u64.wrap a) 24)),(IntKind.u8.wrap (Qr .u64 (IntKind.u64.wrap a) 16)),(IntKind.u8.wrap (Qr .u64 (IntKind.u64.wrap a) 8)),(IntKind.u8.wrap (IntKind.u64.wrap a))]:List Int)).length,.n 4] rfl ⟨⟨⟨⟨⟨⟨⟨⟨⟨⟨⟨⟨⟨⟨⟨⟨⟨⟨tt_,(fun σ b c _=>Stp.convI rfl rfl (Qo hC.n rfl) (b _ _ rfl) QlD QaE)⟩,(fun σ b c _=>Stp.shr rfl rfl (Qo hC.n rfl) (b _ _ rfl) (b _ _ rfl) (by decide))⟩,(fun σ b c _=>Stp.convI rfl rfl (Qo hC.n rfl) (b _ _ rfl) QaE QaP)⟩,(fun σ b c _=>Stp.shr rfl rfl (Qo hC.n rfl) (b _ _ rfl) (b _ _ rfl) (by decide))⟩,(fun σ b c _=>Stp.convI rfl rfl (Qo hC.n rfl) (b _ _ rfl) QaE QaP)⟩,(fun σ b c _=>Stp.shr rfl rfl (Qo hC.n rfl) (b _ _ rfl) (b _ _ rfl) (by decide))⟩,(fun σ b c _=>Stp.convI rfl rfl (Qo hC.n rfl) (b _ _ rfl) QaE QaP)⟩,(fun σ b c _=>Stp.shr rfl rfl (Qo hC.n rfl) (b _ _ rfl) (b _ _ rfl) (by decide))⟩,(fun σ b c _=>Stp.convI rfl rfl (Qo hC.n rfl) (b _ _ rfl) QaE QaP)⟩,(fun σ b c _=>Stp.shr rfl rfl (Qo hC.n rfl) (b _ _ rfl) (b _ _ rfl) (by decide))⟩,(fun σ b c _=>Stp.convI rfl rfl (Qo hC.n rfl) (b _ _ rfl) QaE QaP)⟩,(fun σ b c _=>Stp.shr rfl rfl (Qo hC.n rfl) (b _ _ rfl) (b _ _ rfl) (by decide))⟩,(fun σ b c _=>Stp.convI rfl rfl (Qo hC.n rfl) (b _ _ rfl) QaE QaP)⟩,(fun σ b c _=>Stp.shr rfl rfl (Qo hC.n rfl) (b _ _ rfl) (b _ _ rfl) (by decide))⟩,(fun σ b c _=>Stp.convI rfl rfl (Qo hC.n rfl) (b _ _ rfl) QaE QaP)⟩,(fun σ b c _=>Stp.convI rfl rfl (Qo hC.n rfl) (b _ _ rfl) QaE QaP)⟩,rfl⟩,⟨Qj,Qc6 e Qj,QbY,Qeg Qj⟩⟩ ?_
 cases h
 exact d1_ rfl rfl ⟨rfl,tt_⟩
def QbF (d:(List Int))(a:Int)(e:(List Int)):Option ((Int×(List Int))⊕(List Int)):=
 bif (decide (a<(d.length:Int)))then
 (idx d a).bind fun b=>
 (QM e b).bind fun c=>
 some (.inl ((w64 (a+1)),c))
 else
 some (.inr e)
def Qe6 (a:(List Int)):Option (List Int):=
 some a
def QcG (b:(List Int))(a:(List Int)):Option (List Int):=
 (QM b (a.length:Int)).bind fun c=>
 (QU (fun st=>QbF a st.1 st.2) (0,c)).bind (fun q=>Qe6 q)
theorem Qe7 (j b){r}(h:QcG j b=some r):Qf prog 93 [.own 605 j.length,.sl 1 (b.map Qq)] [(605,.arr 1 (j.map Qi))] (Qp (.own 605 r.length) [(605,.arr 1 (r.map Qi))]):=by
 refine Qf.walk 23 func93 rfl rfl rfl fun C hC=>?_
 obtain⟨p,k,h⟩:=Qc h
 refine Qa hC [.n 9,.o (.ln b.length),.cm (.fn) [(605,605)] [(605,605)] [605] [.d,.d] [(605,.arr 1 (p.map Qi))] (.own 605 p.length),.n 10,.K [0,1,5] [605]] rfl ⟨⟨tt_,Qj⟩,(QH _ _ k)⟩ ?_
 obtain⟨l,c,h⟩:=Qc h
 refine AK.loop (body:=(fun st=>QbF b st.1 st.2)) (fun st σ=>σ=⟨[(0,.own 605 st.2.length),(1,.sl 1 (b.map Qq)),(5,.I st.1)],[(605,.arr 1 (st.2.map Qi))]⟩) (fun q e σ=>e=.exit 0∧σ=⟨[(0,.own 605 q.length)],[(605,.arr 1 (q.map Qi))]⟩) c rfl ?_ ?_
 ·rintro ⟨s,t⟩ o σ rfl h
  refine Qa hC [.n 5,.o (.ln b.length),.n 3] rfl ⟨tt_,Qj⟩ ?_
  rcases QP h with⟨a,h⟩|⟨a,h⟩
  ·obtain⟨m,f,h⟩:=Qc h
   obtain⟨g,i,h⟩:=Qc h
   refine Qa hC [.T,.n 8,.o (.row (Qq m)),.n 1,.cm (.fn) [(605,605)] [(605,605)] [605] [.d,.d] [(605,.arr 1 (g.map Qi))] (.own 605 g.length),.n 9,.K [0,1,5] [605]] rfl ⟨⟨⟨tt_,a⟩,(Qan f)⟩,(QH _ _ i)⟩ ?_
   cases h
   exact QaF rfl rfl
  refine Qa hC [.F,.n 2,.K [0] [605]] rfl ⟨tt_,a⟩ ?_
  cases h
  exact QaC rfl (an_ rfl rfl)
 replace h:Qe6 l=some r:=h
 rintro e σ ⟨rfl,rfl⟩
 refine tg_ hC [.n 9] rfl ?_
 cases h
 exact d1_ rfl rfl ⟨rfl,tt_⟩
def QdK (b:(List Int))(a:Qab):Option (List Int):=
 (QM b a.Task).bind fun c=>
 (QcG c a.Vars).bind fun d=>
 (QcG d a.Ins).bind fun e=>
 (QcG e a.Outs).bind fun f=>
 some f
theorem Qhg (b i){r}(h:QdK b i=some r):Qf prog 60 [.own 605 b.length,.agg (Qaa i)] [(605,.arr 1 (b.map Qi))] (Qp (.own 605 r.length) [(605,.arr 1 (r.map Qi))]):=by
 refine Qf.walk 18 func60 rfl rfl rfl fun C hC=>?_
 obtain⟨j,c,h⟩:=Qc h
 obtain⟨k,e,h⟩:=Qc h
 obtain⟨l,f,h⟩:=Qc h
 obtain⟨o,g,h⟩:=Qc h
 refine tg_ hC [.n 7,.K [0,3,4] [3,605]] rfl ?_
 refine AK.draw2 Ql hC mixed [.N,.N,.N,.m (.cm (.fn) [(605,605)] [(605,605)] [605] [.d,.d] [(605,.arr 1 (j.map Qi))] (.own 605 j.length) []),.a .no none true,.a .no none true,.m (.cm (.fn) [(605,605)] [(605,605)] [605] [.d,.d] [(605,.arr 1 (k.map Qi))] (.own 605 k.length) []),.a .no none true,.a .no none true,.m (.cm (.fn) [(605,605)] [(605,605)] [605] [.d,.d] [(605,.arr 1 (l.map Qi))] (.own 605 l.length) []),.a .no none true,.a .no none true,.m (.cm (.fn) [(605,605)] [(605,605)] [605] [.d,.d] [(605,.arr 1 (o.map Qi))] (.own 605 o.length) []),.m .s] [3,4] [3] [4] [605] rfl rfl rfl ⟨⟨⟨⟨tt_,⟨tt_,(QH _ _ c)⟩⟩,⟨tt_,(Qe7 _ _ e)⟩⟩,⟨tt_,(Qe7 _ _ f)⟩⟩,⟨tt_,(Qe7 _ _ g)⟩⟩ rfl (by kernel_rfl) rfl rfl rfl ?_
 refine tg_ hC [.n 2] rfl ?_
 cases h
 exact d1_ rfl rfl ⟨rfl,tt_⟩
def QaG (c:QS)(d:Int)(a:Int)(b:(List Int)):Option ((Int×(List Int))⊕(List Int)):=
 (idx c.M d).bind fun e=>
 bif (decide (a<(e.length:Int)))then
 (idx c.M d).bind fun f=>
 (idx f a).bind fun g=>
 (QM b g.1).bind fun h=>
 (idx c.M d).bind fun i=>
 (idx i a).bind fun j=>
 (QM h j.2).bind fun k=>
 some (.inl ((w64 (a+1)),k))
 else
 some (.inr b)
def QcH (b:Int)(a:(List Int)):Option ((Int×(List Int))⊕(List Int)):=
 some (.inl ((w64 (b+1)),a))
def QaH (b:QS)(a:Int)(e:(List Int)):Option ((Int×(List Int))⊕(List Int)):=
 bif (decide (a<(b.M.length:Int)))then
 (idx b.M a).bind fun c=>
 (QM e (c.length:Int)).bind fun d=>
 (QU (fun st=>QaG b a st.1 st.2) (0,d)).bind (fun q=>QcH a q)
 else
 some (.inr e)
def QaI (l:QS)(b:Int)(c:(List Int)):Option ((Int×(List Int))⊕(List Int)):=
 bif (decide (b<(l.Items.length:Int)))then
 (idx l.Items b).bind fun a=>
 (QM c a.Id).bind fun d=>
 (QdK d a.Mode).bind fun e=>
 (QM e a.Batch.Most).bind fun f=>
 (QM f a.Batch.Enough).bind fun g=>
 (QM g a.Batch.Open).bind fun h=>
 (QM h a.Batch.Done).bind fun i=>
 (QM i a.Batch.Failed).bind fun j=>
 (QM j a.Until).bind fun k=>
 some (.inl ((w64 (b+1)),k))
 else
 some (.inr c)
def QcI (a:(List Int)):Option (List Int):=
 some a
def QcJ (c:QS)(a:(List Int)):Option (List Int):=
 (QM a (c.Items.length:Int)).bind fun b=>
 (QU (fun st=>QaI c st.1 st.2) (0,b)).bind (fun q=>QcI q)
def Qcr (a:QS):Option (List Int):=
 (Qd9 a.Next).bind fun b=>
 (QM b a.Now).bind fun c=>
 (QM c (a.M.length:Int)).bind fun d=>
 (QU (fun st=>QaH a st.1 st.2) (0,d)).bind (fun q=>QcJ a q)
theorem QbG (b){r}(h:Qcr b=some r):Qf prog 25 [.agg (Qs b)] [] (Qp (.own 600 r.length) [(600,.arr 1 (r.map Qi))]):=by
 refine Qf.walk 114 func25 rfl rfl rfl fun C hC=>?_
 obtain⟨x3,b1,h⟩:=Qc h
 obtain⟨x4,b2,h⟩:=Qc h
 refine tg_ hC [.n 7,.K [1] [1]] rfl ?_
 refine AK.draw2 Ql hC mixed [.N,.N,.m (.cm (.fn) [] [(10,600)] [10] [.d,.d] [(600,.arr 1 (x3.map Qi))] (.own 600 x3.length) []),.a .no none true,.a .no none true,.m (.cm (.fn) [(605,10)] [(10,605)] [10] [.d,.d] [(605,.arr 1 (x4.map Qi))] (.own 605 x4.length) []),.N] [1] [1] [1,3] [1,10] rfl rfl rfl ⟨⟨tt_,⟨tt_,(QhX _ b1)⟩⟩,⟨tt_,(QH _ _ b2)⟩⟩ rfl (by kernel_rfl) rfl rfl rfl ?_
 obtain⟨x5,b3,h⟩:=Qc h
 refine Qa hC [.n 6,.o (.ln b.M.length),.cm (.fn) [(605,10)] [(10,605)] [10] [.d,.d] [(605,.arr 1 (x5.map Qi))] (.own 605 x5.length),.n 10,.K [1,3,4] [1,10]] rfl ⟨⟨tt_,Qj⟩,(QH _ _ b3)⟩ ?_
 obtain⟨b4,j,h⟩:=Qc h
 refine AK.loop (body:=(fun st=>QaH b st.1 st.2)) (fun st σ=>σ=⟨[(1,.loc 1 0 0),(3,.own 10 st.2.length),(4,.I st.1)],[(1,.var (Qs b)),(10,.arr 1 (st.2.map Qi))]⟩) (fun q e σ=>e=.exit 0∧σ=⟨[(1,.loc 1 0 0),(3,.own 10 q.length)],[(1,.var (Qs b)),(10,.arr 1 (q.map Qi))]⟩) j rfl ?_ ?_
 ·rintro ⟨i7,l8⟩ o σ rfl h
  refine Qa hC [.n 6,.o (.ln b.M.length),.n 3] rfl ⟨tt_,Qj⟩ ?_
  rcases QP h with⟨c,h⟩|⟨c,h⟩
  ·obtain⟨k,l,h⟩:=Qc h
   obtain⟨p,t,h⟩:=Qc h
   refine Qa hC [.T,.n 10,.o (.row (QG k)),.n 1,.o (.ln k.length),.cm (.fn) [(605,10)] [(10,605)] [10] [.d,.d] [(605,.arr 1 (p.map Qi))] (.own 605 p.length),.n 9,.K [1,3,4,5] [1,10]] rfl ⟨⟨⟨⟨tt_,c⟩,(Qan l)⟩,Qj⟩,(QH _ _ t)⟩ ?_
   obtain⟨b5,u,h⟩:=Qc h
   refine AK.loop (body:=(fun st=>QaG b i7 st.1 st.2)) (fun st σ=>σ=⟨[(1,.loc 1 0 0),(3,.own 10 st.2.length),(4,.I i7),(5,.I st.1)],[(1,.var (Qs b)),(10,.arr 1 (st.2.map Qi))]⟩) (fun q e σ=>e=.exit 2∧σ=⟨[(1,.loc 1 0 0),(3,.own 10 q.length),(4,.I i7)],[(1,.var (Qs b)),(10,.arr 1 (q.map Qi))]⟩) u rfl ?_ ?_
   ·rintro ⟨c2,c3⟩ o σ rfl h
    obtain⟨w,x,h⟩:=Qc h
    refine Qa hC [.n 7,.o (.row (QG w)),.n 1,.o (.ln w.length),.n 3] rfl ⟨⟨tt_,(Qan x)⟩,Qj⟩ ?_
    rcases QP h with⟨f,h⟩|⟨f,h⟩
    ·obtain⟨b6,y,h⟩:=Qc h
     obtain⟨b7,z,h⟩:=Qc h
     obtain⟨A,B,h⟩:=Qc h
     obtain⟨b8,D,h⟩:=Qc h
     obtain⟨b9,E,h⟩:=Qc h
     obtain⟨G,H,h⟩:=Qc h
     refine Qa hC [.T,.n 4,.K [1,3,4,5] [1,10]] rfl ⟨tt_,f⟩ ?_
     refine AK.draw2 Ql hC mixed [.N,.N,.N,.N,.a (.row (QG b6)) none false,.N,.N,.a (.row (QB b7)) none false,.N,.N,.m (.cm (.fn) [(605,10)] [(10,605)] [10] [.d,.d] [(605,.arr 1 (A.map Qi))] (.own 605 A.length) []),.a .no none true,.a .no none true,.a .no none true,.a (.row (QG b8)) none true,.a .no none true,.a .no none true,.a (.row (QB b9)) none true,.a .no none true,.a .no none true,.m (.cm (.fn) [(605,10)] [(10,605)] [10] [.d,.d] [(605,.arr 1 (G.map Qi))] (.own 605 G.length) []),.m .s] [1,4,5] [1] [1,3,4,5] [1,10] rfl rfl rfl ⟨⟨⟨⟨⟨⟨tt_,(Qan y)⟩,(Qan z)⟩,⟨tt_,(QH _ _ B)⟩⟩,(Qan D)⟩,(Qan E)⟩,⟨tt_,(QH _ _ H)⟩⟩ rfl (by kernel_rfl) rfl rfl rfl ?_
     refine tg_ hC [.n 7,.K [1,3,4,5] [1,10]] rfl ?_
     cases h
     exact QaF rfl rfl
    refine Qa hC [.F,.n 2,.K [1,3,4] [1,10]] rfl ⟨tt_,f⟩ ?_
    cases h
    exact QaC rfl (an_ rfl rfl)
   replace h:QcH i7 b5=some o:=h
   rintro e σ ⟨rfl,rfl⟩
   refine tg_ hC [.n 8,.K [1,3,4] [1,10]] rfl ?_
   cases h
   exact QaF rfl rfl
  refine Qa hC [.F,.n 2,.K [1,3] [1,10]] rfl ⟨tt_,c⟩ ?_
  cases h
  exact QaC rfl (an_ rfl rfl)
 replace h:QcJ b b4=some r:=h
 rintro e σ ⟨rfl,rfl⟩
 obtain⟨J,L,h⟩:=Qc h
 refine Qa hC [.n 7,.o (.ln b.Items.length),.cm (.fn) [(605,10)] [(10,605)] [10] [.d,.d] [(605,.arr 1 (J.map Qi))] (.own 605 J.length),.n 10,.K [1,3,6] [1,10]] rfl ⟨⟨tt_,Qj⟩,(QH _ _ L)⟩ ?_
 obtain⟨c0,P,h⟩:=Qc h
 refine AK.loop (body:=(fun st=>QaI b st.1 st.2)) (fun st σ=>σ=⟨[(1,.loc 1 0 0),(3,.own 10 st.2.length),(6,.I st.1)],[(1,.var (Qs b)),(10,.arr 1 (st.2.map Qi))]⟩) (fun q e σ=>e=.exit 4∧σ=⟨[(3,.own 10 q.length)],[(10,.arr 1 (q.map Qi))]⟩) P rfl ?_ ?_
 ·rintro ⟨c4,c5⟩ o σ rfl h
  refine Qa hC [.n 6,.o (.ln b.Items.length),.n 3] rfl ⟨tt_,Qj⟩ ?_
  rcases QP h with⟨g,h⟩|⟨g,h⟩
  ·obtain⟨i,S,h⟩:=Qc h
   obtain⟨U,W,h⟩:=Qc h
   obtain⟨X,Y,h⟩:=Qc h
   refine Qa hC [.T,.n 9,.o (.row (Qd i)),.v .no [] (.agg (Qd i)),.n 2,.O 7 (.var (Qd i)),.n 3,.K [1,3,6,7] [1,7,10]] rfl ⟨⟨⟨⟨tt_,g⟩,(Qan S)⟩,rfl⟩,rfl⟩ ?_
   refine AK.draw2 Ql hC mixed [.N,.N,.N,.m (.cm (.fn) [(605,10)] [(10,605)] [10] [.d,.d] [(605,.arr 1 (U.map Qi))] (.own 605 U.length) []),.a .no none true,.a .no (some ([],.agg (Qaa i.Mode))) true,.m (.cm (.fn) [(605,10)] [(10,605)] [10] [.d,.d] [(605,.arr 1 (X.map Qi))] (.own 605 X.length) []),.m .s] [1,6,7] [1,7] [1,3,6,7] [1,7,10] rfl rfl rfl ⟨⟨⟨tt_,⟨tt_,(QH _ _ W)⟩⟩,rfl⟩,⟨tt_,(Qhg _ _ Y)⟩⟩ rfl (by kernel_rfl) rfl rfl rfl ?_
   obtain⟨Z,a0,h⟩:=Qc h
   obtain⟨a1,a2,h⟩:=Qc h
   obtain⟨a3,a4,h⟩:=Qc h
   obtain⟨a5,a6,h⟩:=Qc h
   obtain⟨a7,a8,h⟩:=Qc h
   obtain⟨a9,b0,h⟩:=Qc h
   refine tg_ hC [.n 1,.K [1,3,6,7] [1,7,10]] rfl ?_
   refine AK.draw2 Ql hC mixed [.N,.N,.N,.N,.m (.cm (.fn) [(605,10)] [(10,605)] [10] [.d,.d] [(605,.arr 1 (Z.map Qi))] (.own 605 Z.length) []),.a .no none true,.a .no none true,.a .no none true,.m (.cm (.fn) [(605,10)] [(10,605)] [10] [.d,.d] [(605,.arr 1 (a1.map Qi))] (.own 605 a1.length) []),.a .no none true,.a .no none true,.a .no none true,.m (.cm (.fn) [(605,10)] [(10,605)] [10] [.d,.d] [(605,.arr 1 (a3.map Qi))] (.own 605 a3.length) []),.a .no none true,.a .no none true,.a .no none true,.m (.cm (.fn) [(605,10)] [(10,605)] [10] [.d,.d] [(605,.arr 1 (a5.map Qi))] (.own 605 a5.length) []),.a .no none true,.a .no none true,.a .no none true,.m (.cm (.fn) [(605,10)] [(10,605)] [10] [.d,.d] [(605,.arr 1 (a7.map Qi))] (.own 605 a7.length) []),.a .no none true,.a .no none true,.m (.cm (.fn) [(605,10)] [(10,605)] [10] [.d,.d] [(605,.arr 1 (a9.map Qi))] (.own 605 a9.length) []),.m .s] [1,6,7] [1,7] [1,3,6] [1,10] rfl rfl rfl ⟨⟨⟨⟨⟨⟨tt_,⟨tt_,(QH _ _ a0)⟩⟩,⟨tt_,(QH _ _ a2)⟩⟩,⟨tt_,(QH _ _ a4)⟩⟩,⟨tt_,(QH _ _ a6)⟩⟩,⟨tt_,(QH _ _ a8)⟩⟩,⟨tt_,(QH _ _ b0)⟩⟩ rfl (by kernel_rfl) rfl rfl rfl ?_
   refine tg_ hC [.n 7,.K [1,3,6] [1,10]] rfl ?_
   cases h
   exact QaF rfl rfl
  refine Qa hC [.F,.n 2,.K [3] [10]] rfl ⟨tt_,g⟩ ?_
  cases h
  exact QaC rfl (an_ rfl rfl)
 replace h:QcI c0=some r:=h
 rintro e σ ⟨rfl,rfl⟩
 refine tg_ hC [.n 9,.K [2] [10],.ren 10 600] rfl ?_
 cases h
 exact d1_ rfl rfl ⟨rfl,tt_⟩
def Qcs (a:Qap):Option (List Int):=
 (Qd9 a.Do).bind fun b=>
 (QM b a.Id).bind fun c=>
 (QdK c a.Mode).bind fun d=>
 (QM d a.Num).bind fun e=>
 some e
theorem QcK (b){r}(h:Qcs b=some r):Qf prog 27 [.agg (QF b)] [] (Qp (.own 600 r.length) [(600,.arr 1 (r.map Qi))]):=by
 refine Qf.walk 15 func27 rfl rfl rfl fun C hC=>?_
 obtain⟨i,c,h⟩:=Qc h
 obtain⟨j,e,h⟩:=Qc h
 obtain⟨k,f,h⟩:=Qc h
 obtain⟨l,g,h⟩:=Qc h
 refine tg_ hC [.n 7,.K [1,2] [1]] rfl ?_
 refine AK.draw2 Ql hC mixed [.N,.N,.m (.cm (.fn) [] [(5,600)] [5] [.d,.d] [(600,.arr 1 (i.map Qi))] (.own 600 i.length) []),.a .no none true,.a .no none true,.m (.cm (.fn) [(605,5)] [(5,605)] [5] [.d,.d] [(605,.arr 1 (j.map Qi))] (.own 605 j.length) []),.a .no none true,.a .no (some ([],.agg (Qaa b.Mode))) true,.m (.cm (.fn) [(605,5)] [(5,605)] [5] [.d,.d] [(605,.arr 1 (k.map Qi))] (.own 605 k.length) []),.a .no none true,.a .no none true,.m (.cm (.fn) [(605,5)] [(5,605)] [5] [.d,.d] [(605,.arr 1 (l.map Qi))] (.own 605 l.length) []),.m .s] [1,2] [1] [2] [5] rfl rfl rfl ⟨⟨⟨⟨⟨tt_,⟨tt_,(QhX _ c)⟩⟩,⟨tt_,(QH _ _ e)⟩⟩,rfl⟩,⟨tt_,(Qhg _ _ f)⟩⟩,⟨tt_,(QH _ _ g)⟩⟩ rfl (by kernel_rfl) rfl rfl rfl ?_
 refine tg_ hC [.n 2,.K [2] [5],.ren 5 600] rfl ?_
 cases h
 exact d1_ rfl rfl ⟨rfl,tt_⟩
def QbH (c:QBg)(e:QBg)(b:Int):Option (Int⊕(Unit⊕Unit)):=
 bif (decide (b<(c.length:Int)))then
 (idx c b).bind fun d=>
 (idx e b).bind fun a=>
 bif (!((d.1==a.1)&&(d.2==a.2)))then
 some (.inr (.inl ()))
 else
 some (.inl (w64 (b+1)))
 else
 some (.inr (.inr ()))
def Qe8 : Option Bool:=
 some false
def Qe9 : Option Bool:=
 some true
def Qfa (a:QBg)(b:QBg):Option Bool:=
 bif ((a.length:Int) != (b.length:Int))then
 some false
 else
 (QU (fun st=>QbH a b st) 0).bind (Sum.elim (fun q=>Qe8) (fun q=>Qe9))
theorem Qkd (i j){r}(h:Qfa i j=some r):Qf prog 97 [.sl 2 (i.map QB),.sl 2 (j.map QB)] [] (Qp (.b r) []):=by
 refine Qf.walk 26 func97 rfl rfl rfl fun C hC=>?_
 refine Qa hC [.n 9,.o (.ln i.length),.n 1,.o (.ln j.length),.n 3] rfl ⟨⟨tt_,Qj⟩,Qj⟩ ?_
 refine bg_ h (fun f h=>Qa hC [.T,.n 7,.K [4] []] rfl ⟨tt_,f⟩ ?_) fun f h=>Qa hC [.F,.n 9,.K [0,1,5] []] rfl ⟨tt_,f⟩ ?_
 ·cases h
  exact d1_ rfl rfl tt_
 obtain⟨p,k,h⟩:=Qc h
 refine AK.loop (body:=(fun st=>QbH i j st)) (fun st σ=>σ=⟨[(0,.sl 2 (i.map QB)),(1,.sl 2 (j.map QB)),(5,.I st)],[]⟩) (Sum.elim (fun q e σ=>e=.ret∧σ=⟨[(4,.b false)],[]⟩) (fun q e σ=>e=.exit 0∧σ=⟨[],[]⟩)) k rfl ?_ ?_
 ·rintro u o σ rfl h
  refine Qa hC [.n 5,.o (.ln i.length),.n 3] rfl ⟨tt_,Qj⟩ ?_
  rcases QP h with⟨g,h⟩|⟨g,h⟩
  ·obtain⟨m,s,h⟩:=Qc h
   obtain⟨d,l,h⟩:=Qc h
   refine Qa hC [.T,.n 5,.K [0,1,5] []] rfl ⟨tt_,g⟩ ?_
   refine AK.draw2 Ql hC mixed [.N,.N,.a (.row (QB m)) none false,.a .no (some ([],.agg (QB m))) false,.N,.N,.a (.row (QB d)) none false,.a .no (some ([],.agg (QB d))) false,.a (.any (.b (!((m.1==d.1)&&(m.2==d.2)))) none) none false] [] [] [0,1,5,25] [] rfl rfl rfl ⟨⟨⟨⟨⟨tt_,(Qan s)⟩,rfl⟩,(Qan l)⟩,rfl⟩,(fun σ t v _=>Stp.neAgg rfl rfl (Qo hC.n rfl) (t _ _ rfl) (t _ _ rfl) rfl rfl (Qn0 _ _ _ _))⟩ rfl (by kernel_rfl) rfl rfl rfl ?_
   refine tg_ hC [.n 1] rfl ?_
   refine bg_ h (fun c h=>Qa hC [.T,.n 8,.K [4] []] rfl ⟨tt_,c⟩ ?_) fun c h=>Qa hC [.F,.n 8,.K [0,1,5] []] rfl ⟨tt_,c⟩ ?_
   ·cases h
    exact QfU rfl (an_ rfl rfl)
   cases h
   exact QaF rfl rfl
  refine Qa hC [.F,.n 2,.K [] []] rfl ⟨tt_,g⟩ ?_
  cases h
  exact QaC rfl (an_ rfl rfl)
 rcases p with(_ | _)
 ·replace h:Qe8=some r:=h
  rintro e σ ⟨rfl,rfl⟩
  refine tg_ hC [.n 2] rfl ?_
  cases h
  exact d1_ rfl rfl tt_
 replace h:Qe9=some r:=h
 rintro e σ ⟨rfl,rfl⟩
 refine tg_ hC [.n 8] rfl ?_
 cases h
 exact d1_ rfl rfl tt_
def QaS (d:QMk)(e:QMk)(a:Int):Option (Int⊕(Unit⊕Unit)):=
 bif (decide (a<(d.length:Int)))then
 (idx d a).bind fun f=>
 (idx e a).bind fun b=>
 (Qfa f b).bind fun c=>
 bif (!c)then
 some (.inr (.inl ()))
 else
 some (.inl (w64 (a+1)))
 else
 some (.inr (.inr ()))
def Qdj : Option Bool:=
 some false
def Qdk : Option Bool:=
 some true
def QcZ (a:QMk)(b:QMk):Option Bool:=
 bif ((a.length:Int) != (b.length:Int))then
 some false
 else
 (QU (fun st=>QaS a b st) 0).bind (Sum.elim (fun q=>Qdj) (fun q=>Qdk))
theorem QiO (j k){r}(h:QcZ j k=some r):Qf prog 66 [.sl 1 (j.map QG),.sl 1 (k.map QG)] [] (Qp (.b r) []):=by
 refine Qf.walk 27 func66 rfl rfl rfl fun C hC=>?_
 refine Qa hC [.n 9,.o (.ln j.length),.n 1,.o (.ln k.length),.n 3] rfl ⟨⟨tt_,Qj⟩,Qj⟩ ?_
 refine bg_ h (fun g h=>Qa hC [.T,.n 7,.K [4] []] rfl ⟨tt_,g⟩ ?_) fun g h=>Qa hC [.F,.n 9,.K [0,1,5] []] rfl ⟨tt_,g⟩ ?_
 ·cases h
  exact d1_ rfl rfl tt_
 obtain⟨s,l,h⟩:=Qc h
 refine AK.loop (body:=(fun st=>QaS j k st)) (fun st σ=>σ=⟨[(0,.sl 1 (j.map QG)),(1,.sl 1 (k.map QG)),(5,.I st)],[]⟩) (Sum.elim (fun q e σ=>e=.ret∧σ=⟨[(4,.b false)],[]⟩) (fun q e σ=>e=.exit 0∧σ=⟨[],[]⟩)) l rfl ?_ ?_
 ·rintro x o σ rfl h
  refine Qa hC [.n 5,.o (.ln j.length),.n 3] rfl ⟨tt_,Qj⟩ ?_
  rcases QP h with⟨i,h⟩|⟨i,h⟩
  ·obtain⟨w,t,h⟩:=Qc h
   obtain⟨u,m,h⟩:=Qc h
   obtain⟨v,p,h⟩:=Qc h
   refine Qa hC [.T,.n 5,.K [0,1,5] []] rfl ⟨tt_,i⟩ ?_
   refine AK.draw2 Ql hC mixed [.N,.N,.a (.row (QG w)) none false,.N,.N,.N,.a (.row (QG u)) none false,.N,.a (.c false [.d,.d] (.b v)) none false,.N] [] [] [0,1,5,26] [] rfl rfl rfl ⟨⟨⟨tt_,(Qan t)⟩,(Qan m)⟩,(Qkd _ _ p)⟩ rfl (by kernel_rfl) rfl rfl rfl ?_
   refine tg_ hC [.n 1] rfl ?_
   refine bg_ h (fun f h=>Qa hC [.T,.n 8,.K [4] []] rfl ⟨tt_,f⟩ ?_) fun f h=>Qa hC [.F,.n 8,.K [0,1,5] []] rfl ⟨tt_,f⟩ ?_
   ·cases h
    exact QfU rfl (an_ rfl rfl)
   cases h
   exact QaF rfl rfl
  refine Qa hC [.F,.n 2,.K [] []] rfl ⟨tt_,i⟩ ?_
  cases h
  exact QaC rfl (an_ rfl rfl)
 rcases s with(_ | _)
 ·replace h:Qdj=some r:=h
  rintro e σ ⟨rfl,rfl⟩
  refine tg_ hC [.n 2] rfl ?_
  cases h
  exact d1_ rfl rfl tt_
 replace h:Qdk=some r:=h
 rintro e σ ⟨rfl,rfl⟩
 refine tg_ hC [.n 8] rfl ?_
 cases h
 exact d1_ rfl rfl tt_
def Qhh (a:Qab)(b:Qab):Option Bool:=
 bif (a.Task==b.Task)then
 (Qb9 a.Vars b.Vars).bind fun d=>
 bif d then
 (Qb9 a.Ins b.Ins).bind fun e=>
 bif e then
 (Qb9 a.Outs b.Outs).bind fun c=>
 some c
 else
 some false
 else
 some false
 else
 some false
def Qdt (a:Bool):Option Bool:=
 some a
def Qfb (a:Qab)(b:Qab):Option Bool:=
 (Qhh a b).bind (fun c=>Qdt c)
theorem Qke (p q){r}(h:Qfb p q=some r):Qf prog 78 [.agg (Qaa p),.agg (Qaa q)] [] (Qp (.b r) []):=by
 refine Qf.walk 31 func78 rfl rfl rfl fun C hC=>?_
 refine tg_ hC [.n 8] rfl ?_
 obtain⟨i,j,h⟩:=Qc h
 replace h:Qdt i=some r:=h
 refine AK.meetX (fun σ=>σ=⟨[(4,.b i)],[]⟩) ?_ ?_
 ·replace h:=j
  refine tg_ hC [.n 7] rfl ?_
  rcases QP h with⟨e,h⟩|⟨e,h⟩
  ·obtain⟨s,k,h⟩:=Qc h
   refine Qa hC [.S 10 (.b true),.n 4,.o (.c false [.d,.d] (.b s)),.n 2] rfl ⟨(tc_ e),(Qdq _ _ k)⟩ ?_
   rcases QP h with⟨f,h⟩|⟨f,h⟩
   ·obtain⟨t,l,h⟩:=Qc h
    refine Qa hC [.S 17 (.b true),.n 4,.o (.c false [.d,.d] (.b t)),.n 2] rfl ⟨(tc_ f),(Qdq _ _ l)⟩ ?_
    rcases QP h with⟨a,h⟩|⟨a,h⟩
    ·obtain⟨m,g,h⟩:=Qc h
     refine Qa hC [.S 24 (.b true),.n 4,.o (.c false [.d,.d] (.b m)),.n 3,.K [4] []] rfl ⟨(tc_ a),(Qdq _ _ g)⟩ ?_
     cases h
     exact AK.met rfl
    refine Qa hC [.S 24 (.b false),.n 8,.K [4] []] rfl (tc_ a) ?_
    cases h
    exact AK.met rfl
   refine Qa hC [.S 17 (.b false),.n 15,.K [4] []] rfl (tc_ f) ?_
   cases h
   exact AK.met rfl
  refine Qa hC [.S 10 (.b false),.n 22,.K [4] []] rfl (tc_ e) ?_
  cases h
  exact AK.met rfl
 rintro σ rfl
 replace h:Qdt i=some r:=h
 refine tg_ hC [.n 2] rfl ?_
 cases h
 exact d1_ rfl rfl tt_
def Qfl (a:Qk)(b:Qk):Option Bool:=
 bif (a.Id==b.Id)then
 bif ((a.Batch.Most==b.Batch.Most)&&((a.Batch.Enough==b.Batch.Enough)&&((a.Batch.Open==b.Batch.Open)&&((a.Batch.Done==b.Batch.Done)&&(a.Batch.Failed==b.Batch.Failed)))))then
 bif (a.Until==b.Until)then
 (Qfb a.Mode b.Mode).bind fun c=>
 some c
 else
 some false
 else
 some false
 else
 some false
def Qcd (a:Bool):Option Bool:=
 some a
def Qc0 (a:Qk)(b:Qk):Option Bool:=
 (Qfl a b).bind (fun c=>Qcd c)
theorem QiP (a e){r}(h:Qc0 a e=some r):Qf prog 41 [.agg (Qd a),.agg (Qd e)] [] (Qp (.b r) []):=by
 refine Qf.walk 31 func41 rfl rfl rfl fun C hC=>?_
 refine tg_ hC [.n 8] rfl ?_
 obtain⟨j,k,h⟩:=Qc h
 replace h:Qcd j=some r:=h
 refine AK.meetX (fun σ=>σ=⟨[(4,.b j)],[]⟩) ?_ ?_
 ·replace h:=k
  refine tg_ hC [.n 7] rfl ?_
  refine bg_ h (fun f h=>Qa hC [.S 10 (.b true),.n 1,.v .no [] (.agg (Qaf a.Batch)),.n 1,.v .no [] (.agg (Qaf e.Batch)),.o (.any (.b ((a.Batch.Most==e.Batch.Most)&&((a.Batch.Enough==e.Batch.Enough)&&((a.Batch.Open==e.Batch.Open)&&((a.Batch.Done==e.Batch.Done)&&(a.Batch.Failed==e.Batch.Failed)))))) none),.n 2] rfl ⟨⟨⟨(tc_ f),rfl⟩,rfl⟩,(fun σ m q _=>Stp.eqAgg rfl rfl (Qo hC.n rfl) (m _ _ rfl) (m _ _ rfl) rfl rfl (QnZ _ _ _ _ _ _ _ _ _ _))⟩ ?_) fun f h=>Qa hC [.S 10 (.b false),.n 22,.K [4] []] rfl (tc_ f) ?_
  ·refine bg_ h (fun g h=>Qa hC [.S 17 (.b true),.n 7] rfl (tc_ g) ?_) fun g h=>Qa hC [.S 17 (.b false),.n 15,.K [4] []] rfl (tc_ g) ?_
   ·rcases QP h with⟨i,h⟩|⟨i,h⟩
    ·obtain⟨p,l,h⟩:=Qc h
     refine Qa hC [.S 24 (.b true),.n 1,.v .no [] (.agg (Qaa a.Mode)),.n 1,.v .no [] (.agg (Qaa e.Mode)),.o (.c false [.d,.d] (.b p)),.n 3,.K [4] []] rfl ⟨⟨⟨(tc_ i),rfl⟩,rfl⟩,(Qke _ _ l)⟩ ?_
     cases h
     exact AK.met rfl
    refine Qa hC [.S 24 (.b false),.n 8,.K [4] []] rfl (tc_ i) ?_
    cases h
    exact AK.met rfl
   cases h
   exact AK.met rfl
  cases h
  exact AK.met rfl
 rintro σ rfl
 replace h:Qcd j=some r:=h
 refine tg_ hC [.n 2] rfl ?_
 cases h
 exact d1_ rfl rfl tt_
def Qbs (d:(List Qk))(e:(List Qk))(a:Int):Option (Int⊕(Unit⊕Unit)):=
 bif (decide (a<(d.length:Int)))then
 (idx d a).bind fun f=>
 (idx e a).bind fun b=>
 (Qc0 f b).bind fun c=>
 bif (!c)then
 some (.inr (.inl ()))
 else
 some (.inl (w64 (a+1)))
 else
 some (.inr (.inr ()))
def Qer : Option Bool:=
 some false
def Qes : Option Bool:=
 some true
def Qei (a:(List Qk))(b:(List Qk)):Option Bool:=
 bif ((a.length:Int) != (b.length:Int))then
 some false
 else
 (QU (fun st=>Qbs a b st) 0).bind (Sum.elim (fun q=>Qer) (fun q=>Qes))
theorem QjM (j k){r}(h:Qei j k=some r):Qf prog 13 [.sl 11 (j.map Qd),.sl 11 (k.map Qd)] [] (Qp (.b r) []):=by
 refine Qf.walk 29 func13 rfl rfl rfl fun C hC=>?_
 refine Qa hC [.n 9,.o (.ln j.length),.n 1,.o (.ln k.length),.n 3] rfl ⟨⟨tt_,Qj⟩,Qj⟩ ?_
 refine bg_ h (fun g h=>Qa hC [.T,.n 7,.K [4] []] rfl ⟨tt_,g⟩ ?_) fun g h=>Qa hC [.F,.n 9,.K [0,1,5] []] rfl ⟨tt_,g⟩ ?_
 ·cases h
  exact d1_ rfl rfl tt_
 obtain⟨t,l,h⟩:=Qc h
 refine AK.loop (body:=(fun st=>Qbs j k st)) (fun st σ=>σ=⟨[(0,.sl 11 (j.map Qd)),(1,.sl 11 (k.map Qd)),(5,.I st)],[]⟩) (Sum.elim (fun q e σ=>e=.ret∧σ=⟨[(4,.b false)],[]⟩) (fun q e σ=>e=.exit 0∧σ=⟨[],[]⟩)) l rfl ?_ ?_
 ·rintro x o σ rfl h
  refine Qa hC [.n 5,.o (.ln j.length),.n 3] rfl ⟨tt_,Qj⟩ ?_
  rcases QP h with⟨i,h⟩|⟨i,h⟩
  ·obtain⟨w,u,h⟩:=Qc h
   obtain⟨m,p,h⟩:=Qc h
   obtain⟨v,s,h⟩:=Qc h
   refine Qa hC [.T,.n 5,.K [0,1,5] []] rfl ⟨tt_,i⟩ ?_
   refine AK.draw2 Ql hC mixed [.N,.N,.a (.row (Qd w)) none false,.a .no (some ([],.agg (Qd w))) false,.N,.N,.a (.row (Qd m)) none false,.a .no (some ([],.agg (Qd m))) false,.a (.c false [.d,.d] (.b v)) none false,.N] [] [] [0,1,5,6] [] rfl rfl rfl ⟨⟨⟨⟨⟨tt_,(Qan u)⟩,rfl⟩,(Qan p)⟩,rfl⟩,(QiP _ _ s)⟩ rfl (by kernel_rfl) rfl rfl rfl ?_
   refine tg_ hC [.n 7] rfl ?_
   refine bg_ h (fun f h=>Qa hC [.T,.n 8,.K [4] []] rfl ⟨tt_,f⟩ ?_) fun f h=>Qa hC [.F,.n 8,.K [0,1,5] []] rfl ⟨tt_,f⟩ ?_
   ·cases h
    exact QfU rfl (an_ rfl rfl)
   cases h
   exact QaF rfl rfl
  refine Qa hC [.F,.n 2,.K [] []] rfl ⟨tt_,i⟩ ?_
  cases h
  exact QaC rfl (an_ rfl rfl)
 rcases t with(_ | _)
 ·replace h:Qer=some r:=h
  rintro e σ ⟨rfl,rfl⟩
  refine tg_ hC [.n 2] rfl ?_
  cases h
  exact d1_ rfl rfl tt_
 replace h:Qes=some r:=h
 rintro e σ ⟨rfl,rfl⟩
 refine tg_ hC [.n 8] rfl ?_
 cases h
 exact d1_ rfl rfl tt_
def Qhi (a:QS)(b:QS):Option Bool:=
 bif (a.Next==b.Next)then
 bif (a.Now==b.Now)then
 (QcZ a.M b.M).bind fun d=>
 bif d then
 (Qei a.Items b.Items).bind fun c=>
 some c
 else
 some false
 else
 some false
 else
 some false
def Qdu (a:Bool):Option Bool:=
 some a
def Qfc (a:QS)(b:QS):Option Bool:=
 (Qhi a b).bind (fun c=>Qdu c)
theorem Qhj (m p){r}(h:Qfc m p=some r):Qf prog 29 [.agg (Qs m),.agg (Qs p)] [] (Qp (.b r) []):=by
 refine Qf.walk 31 func29 rfl rfl rfl fun C hC=>?_
 refine tg_ hC [.n 8] rfl ?_
 obtain⟨i,j,h⟩:=Qc h
 replace h:Qdu i=some r:=h
 refine AK.meetX (fun σ=>σ=⟨[(4,.b i)],[]⟩) ?_ ?_
 ·replace h:=j
  refine tg_ hC [.n 7] rfl ?_
  refine bg_ h (fun a h=>Qa hC [.S 10 (.b true),.n 7] rfl (tc_ a) ?_) fun a h=>Qa hC [.S 10 (.b false),.n 22,.K [4] []] rfl (tc_ a) ?_
  ·rcases QP h with⟨e,h⟩|⟨e,h⟩
   ·obtain⟨q,k,h⟩:=Qc h
    refine Qa hC [.S 17 (.b true),.n 4,.o (.c false [.d,.d] (.b q)),.n 2] rfl ⟨(tc_ e),(QiO _ _ k)⟩ ?_
    rcases QP h with⟨f,h⟩|⟨f,h⟩
    ·obtain⟨l,g,h⟩:=Qc h
     refine Qa hC [.S 24 (.b true),.n 4,.o (.c false [.d,.d] (.b l)),.n 3,.K [4] []] rfl ⟨(tc_ f),(QjM _ _ g)⟩ ?_
     cases h
     exact AK.met rfl
    refine Qa hC [.S 24 (.b false),.n 8,.K [4] []] rfl (tc_ f) ?_
    cases h
    exact AK.met rfl
   refine Qa hC [.S 17 (.b false),.n 15,.K [4] []] rfl (tc_ e) ?_
   cases h
   exact AK.met rfl
  cases h
  exact AK.met rfl
 rintro σ rfl
 replace h:Qdu i=some r:=h
 refine tg_ hC [.n 2] rfl ?_
 cases h
 exact d1_ rfl rfl tt_
def QeD (k:Bool)(a:QS)(i:Qap)(j:QS):Option Bool:=
 bif k then
 (Qbz a).bind fun b=>
 (Qcr a).bind fun c=>
 bif (Qee (Qa9 b) (Qa9 c))then
 (Qby i).bind fun d=>
 (Qcs i).bind fun e=>
 bif (Qee (Qa9 d) (Qa9 e))then
 (QcF a j).bind fun f=>
 (Qfc a j).bind fun g=>
 bif (f==g)then
 (QcF a a).bind fun h=>
 some h
 else
 some false
 else
 some false
 else
 some false
 else
 some false
def QcL (a:Bool):Option Bool:=
 some a
def QbA (b:QS)(a:Qap)(c:QS):Option Bool:=
 (QfY).bind fun f=>
 (Qd7 b.Items).bind fun g=>
 (Qd7 c.Items).bind fun h=>
 (Qd8 b.M).bind fun i=>
 (Qd8 c.M).bind fun d=>
 bif ((!g)||((!h)||((!i)||((!d)||(decide (100<(w64 ((w64 ((a.Mode.Vars.length:Int)+(a.Mode.Ins.length:Int)))+(a.Mode.Outs.length:Int)))))))))then
 some f
 else
 (QeD f b a c).bind (fun e=>QcL e)
theorem QhY (t e O){r}(h:QbA t e O=some r):Qf prog 4 [.agg (Qs t),.agg (QF e),.agg (Qs O)] [] (Qp (.b r) []):=by
 refine Qf.walk 90 func4 rfl rfl rfl fun C hC=>?_
 obtain⟨x6,a0,h⟩:=Qc h
 obtain⟨H,a1,h⟩:=Qc h
 obtain⟨I,a2,h⟩:=Qc h
 obtain⟨J,a3,h⟩:=Qc h
 obtain⟨u,U,h⟩:=Qc h
 refine Qa hC [.n 10,.o (.c false [] (.b x6)),.n 7,.o (.c false [.d] (.b H)),.n 7,.o (.c false [.d] (.b I)),.n 7,.o (.c false [.d] (.b J)),.n 7,.o (.c false [.d] (.b u)),.n 5] rfl ⟨⟨⟨⟨⟨tt_,(QjL  a0)⟩,(QhU _ a1)⟩,(QhU _ a2)⟩,(QhW _ a3)⟩,(QhW _ U)⟩ ?_
 refine AK.meetX (fun σ=>σ=⟨[(3,.loc 3 0 0),(4,.loc 4 0 0),(5,.loc 5 0 0),(7,.b x6),(55,.b ((!H)||((!I)||((!J)||((!u)||(decide (100<(w64 ((w64 ((e.Mode.Vars.length:Int)+(e.Mode.Ins.length:Int)))+(e.Mode.Outs.length:Int))))))))))],[(3,.var (Qs t)),(4,.var (QF e)),(5,.var (Qs O))]⟩) ?_ ?_
 ·refine tg_ hC [.n 4] rfl ?_
  rcases QbM (!H)with g | g
  ·refine Qa hC [.S 27 (.b true),.n 29,.S 55 (.b ((!H)||((!I)||((!J)||((!u)||(decide (100<(w64 ((w64 ((e.Mode.Vars.length:Int)+(e.Mode.Ins.length:Int)))+(e.Mode.Outs.length:Int)))))))))),.K [3,4,5,7,55] [3,4,5]] rfl ⟨(tc_ g),(congrArg V.b (orT g rfl))⟩ ?_
   exact AK.met rfl
  refine Qa hC [.S 27 (.b false),.n 4] rfl (tc_ g) ?_
  rcases QbM (!I)with k | k
  ·refine Qa hC [.S 31 (.b true),.n 25,.S 55 (.b ((!H)||((!I)||((!J)||((!u)||(decide (100<(w64 ((w64 ((e.Mode.Vars.length:Int)+(e.Mode.Ins.length:Int)))+(e.Mode.Outs.length:Int)))))))))),.K [3,4,5,7,55] [3,4,5]] rfl ⟨(tc_ k),(congrArg V.b (orF g (orT k rfl)))⟩ ?_
   exact AK.met rfl
  refine Qa hC [.S 31 (.b false),.n 4] rfl (tc_ k) ?_
  rcases QbM (!J)with l | l
  ·refine Qa hC [.S 35 (.b true),.n 21,.S 55 (.b ((!H)||((!I)||((!J)||((!u)||(decide (100<(w64 ((w64 ((e.Mode.Vars.length:Int)+(e.Mode.Ins.length:Int)))+(e.Mode.Outs.length:Int)))))))))),.K [3,4,5,7,55] [3,4,5]] rfl ⟨(tc_ l),(congrArg V.b (orF g (orF k (orT l rfl))))⟩ ?_
   exact AK.met rfl
  refine Qa hC [.S 35 (.b false),.n 4] rfl (tc_ l) ?_
  rcases QbM (!u)with v | v
  ·refine Qa hC [.S 39 (.b true),.n 17,.S 55 (.b ((!H)||((!I)||((!J)||((!u)||(decide (100<(w64 ((w64 ((e.Mode.Vars.length:Int)+(e.Mode.Ins.length:Int)))+(e.Mode.Outs.length:Int)))))))))),.K [3,4,5,7,55] [3,4,5]] rfl ⟨(tc_ v),(congrArg V.b (orF g (orF k (orF l (orT v rfl)))))⟩ ?_
   exact AK.met rfl
  refine Qa hC [.S 39 (.b false),.n 3,.o (.ln e.Mode.Vars.length),.n 3,.o (.ln e.Mode.Ins.length),.n 4,.o (.ln e.Mode.Outs.length),.n 4,.S 55 (.b ((!H)||((!I)||((!J)||((!u)||(decide (100<(w64 ((w64 ((e.Mode.Vars.length:Int)+(e.Mode.Ins.length:Int)))+(e.Mode.Outs.length:Int)))))))))),.K [3,4,5,7,55] [3,4,5]] rfl ⟨⟨⟨⟨(tc_ v),Qj⟩,Qj⟩,Qj⟩,(congrArg V.b (orF g (orF k (orF l (orF v rfl)))))⟩ ?_
  exact AK.met rfl
 rintro σ rfl
 refine tg_ hC [.n 1] rfl ?_
 refine bg_ h (fun B h=>Qa hC [.T,.n 8,.K [6] []] rfl ⟨tt_,B⟩ ?_) fun B h=>Qa hC [.F,.n 3] rfl ⟨tt_,B⟩ ?_
 ·cases h
  exact d1_ rfl rfl tt_
 obtain⟨P,W,h⟩:=Qc h
 replace h:QcL P=some r:=h
 refine AK.meetX (fun σ=>σ=⟨[(6,.b P)],[]⟩) ?_ ?_
 ·replace h:=W
  refine tg_ hC [.K [3,4,5,7] [3,4,5]] rfl ?_
  rcases QP h with⟨m,h⟩|⟨m,h⟩
  ·obtain⟨i,x,h⟩:=Qc h
   obtain⟨j,y,h⟩:=Qc h
   rcases QP h with⟨w,h⟩|⟨w,h⟩
   ·obtain⟨p,D,h⟩:=Qc h
    obtain⟨q,E,h⟩:=Qc h
    rcases QP h with⟨z,h⟩|⟨z,h⟩
    ·obtain⟨X,L,h⟩:=Qc h
     obtain⟨Y,M,h⟩:=Qc h
     rcases QP h with⟨G,h⟩|⟨G,h⟩
     ·obtain⟨a4,Z,h⟩:=Qc h
      refine AK.draw2 Ql hC mixed [.N,.a .no (some ([],.b true)) false,.a .no (some ([],.agg (Qs t))) false,.a (.cd false [.d] 1 (i.map Qi) i.length) none false,.a (.any (.s (Qa9 i)) none) none false,.a .no (some ([],.agg (Qs t))) false,.a (.cd false [.d] 1 (j.map Qi) j.length) none false,.a (.any (.s (Qa9 j)) none) none false,.N,.N,.a .no (some ([],.b true)) false,.a .no (some ([],.agg (QF e))) false,.a (.cd false [.d] 1 (p.map Qi) p.length) none false,.a (.any (.s (Qa9 p)) none) none false,.a .no (some ([],.agg (QF e))) false,.a (.cd false [.d] 1 (q.map Qi) q.length) none false,.a (.any (.s (Qa9 q)) none) none false,.N,.N,.a .no (some ([],.b true)) false,.a .no (some ([],.agg (Qs t))) false,.a .no (some ([],.agg (Qs O))) false,.a (.c false [.d,.d] (.b X)) none false,.a .no (some ([],.agg (Qs t))) false,.a .no (some ([],.agg (Qs O))) false,.a (.c false [.d,.d] (.b Y)) none false,.N,.N,.a .no (some ([],.b true)) false,.a .no (some ([],.agg (Qs t))) false,.a .no (some ([],.agg (Qs t))) false,.a (.c false [.d,.d] (.b a4)) none false,.N,.N] [] [] [6] [] rfl rfl rfl ⟨⟨⟨⟨⟨⟨⟨⟨⟨⟨⟨⟨⟨⟨⟨⟨⟨⟨⟨⟨⟨⟨⟨⟨(tc_ m),rfl⟩,⟨(QaZ _ x),Qj⟩⟩,(fun σ f A _=>Stp.b2s rfl rfl (Qo hC.n rfl) (f _ _ rfl) rfl Qdp QaP (Ql.sb rfl))⟩,rfl⟩,⟨(QbG _ y),Qj⟩⟩,(fun σ f A _=>Stp.b2s rfl rfl (Qo hC.n rfl) (f _ _ rfl) rfl Qdp QaP (Ql.sb rfl))⟩,(cb_ w)⟩,rfl⟩,⟨(QbD _ D),Qj⟩⟩,(fun σ f A _=>Stp.b2s rfl rfl (Qo hC.n rfl) (f _ _ rfl) rfl Qdp QaP (Ql.sb rfl))⟩,rfl⟩,⟨(QcK _ E),Qj⟩⟩,(fun σ f A _=>Stp.b2s rfl rfl (Qo hC.n rfl) (f _ _ rfl) rfl Qdp QaP (Ql.sb rfl))⟩,(cb_ z)⟩,rfl⟩,rfl⟩,(Qds _ _ L)⟩,rfl⟩,rfl⟩,(Qhj _ _ M)⟩,(cb_ G)⟩,rfl⟩,rfl⟩,(Qds _ _ Z)⟩ rfl (by kernel_rfl) rfl rfl rfl ?_
      refine tg_ hC [.K [6] []] rfl ?_
      cases h
      exact AK.met rfl
     refine AK.draw2 Ql hC mixed [.N,.a .no (some ([],.b true)) false,.a .no (some ([],.agg (Qs t))) false,.a (.cd false [.d] 1 (i.map Qi) i.length) none false,.a (.any (.s (Qa9 i)) none) none false,.a .no (some ([],.agg (Qs t))) false,.a (.cd false [.d] 1 (j.map Qi) j.length) none false,.a (.any (.s (Qa9 j)) none) none false,.N,.N,.a .no (some ([],.b true)) false,.a .no (some ([],.agg (QF e))) false,.a (.cd false [.d] 1 (p.map Qi) p.length) none false,.a (.any (.s (Qa9 p)) none) none false,.a .no (some ([],.agg (QF e))) false,.a (.cd false [.d] 1 (q.map Qi) q.length) none false,.a (.any (.s (Qa9 q)) none) none false,.N,.N,.a .no (some ([],.b true)) false,.a .no (some ([],.agg (Qs t))) false,.a .no (some ([],.agg (Qs O))) false,.a (.c false [.d,.d] (.b X)) none false,.a .no (some ([],.agg (Qs t))) false,.a .no (some ([],.agg (Qs O))) false,.a (.c false [.d,.d] (.b Y)) none false,.N,.N,.a .no (some ([],.b false)) false,.N,.N,.N,.N,.N] [] [] [6] [] rfl rfl rfl ⟨⟨⟨⟨⟨⟨⟨⟨⟨⟨⟨⟨⟨⟨⟨⟨⟨⟨⟨⟨⟨(tc_ m),rfl⟩,⟨(QaZ _ x),Qj⟩⟩,(fun σ f A _=>Stp.b2s rfl rfl (Qo hC.n rfl) (f _ _ rfl) rfl Qdp QaP (Ql.sb rfl))⟩,rfl⟩,⟨(QbG _ y),Qj⟩⟩,(fun σ f A _=>Stp.b2s rfl rfl (Qo hC.n rfl) (f _ _ rfl) rfl Qdp QaP (Ql.sb rfl))⟩,(cb_ w)⟩,rfl⟩,⟨(QbD _ D),Qj⟩⟩,(fun σ f A _=>Stp.b2s rfl rfl (Qo hC.n rfl) (f _ _ rfl) rfl Qdp QaP (Ql.sb rfl))⟩,rfl⟩,⟨(QcK _ E),Qj⟩⟩,(fun σ f A _=>Stp.b2s rfl rfl (Qo hC.n rfl) (f _ _ rfl) rfl Qdp QaP (Ql.sb rfl))⟩,(cb_ z)⟩,rfl⟩,rfl⟩,(Qds _ _ L)⟩,rfl⟩,rfl⟩,(Qhj _ _ M)⟩,(cb_ G)⟩ rfl (by kernel_rfl) rfl rfl rfl ?_
     refine tg_ hC [.K [6] []] rfl ?_
     cases h
     exact AK.met rfl
    refine AK.draw2 Ql hC mixed [.N,.a .no (some ([],.b true)) false,.a .no (some ([],.agg (Qs t))) false,.a (.cd false [.d] 1 (i.map Qi) i.length) none false,.a (.any (.s (Qa9 i)) none) none false,.a .no (some ([],.agg (Qs t))) false,.a (.cd false [.d] 1 (j.map Qi) j.length) none false,.a (.any (.s (Qa9 j)) none) none false,.N,.N,.a .no (some ([],.b true)) false,.a .no (some ([],.agg (QF e))) false,.a (.cd false [.d] 1 (p.map Qi) p.length) none false,.a (.any (.s (Qa9 p)) none) none false,.a .no (some ([],.agg (QF e))) false,.a (.cd false [.d] 1 (q.map Qi) q.length) none false,.a (.any (.s (Qa9 q)) none) none false,.N,.N,.a .no (some ([],.b false)) false,.N,.N,.N,.N,.N,.N,.N,.N,.N,.N,.N,.N,.N,.N] [] [] [6] [] rfl rfl rfl ⟨⟨⟨⟨⟨⟨⟨⟨⟨⟨⟨⟨⟨⟨(tc_ m),rfl⟩,⟨(QaZ _ x),Qj⟩⟩,(fun σ f A _=>Stp.b2s rfl rfl (Qo hC.n rfl) (f _ _ rfl) rfl Qdp QaP (Ql.sb rfl))⟩,rfl⟩,⟨(QbG _ y),Qj⟩⟩,(fun σ f A _=>Stp.b2s rfl rfl (Qo hC.n rfl) (f _ _ rfl) rfl Qdp QaP (Ql.sb rfl))⟩,(cb_ w)⟩,rfl⟩,⟨(QbD _ D),Qj⟩⟩,(fun σ f A _=>Stp.b2s rfl rfl (Qo hC.n rfl) (f _ _ rfl) rfl Qdp QaP (Ql.sb rfl))⟩,rfl⟩,⟨(QcK _ E),Qj⟩⟩,(fun σ f A _=>Stp.b2s rfl rfl (Qo hC.n rfl) (f _ _ rfl) rfl Qdp QaP (Ql.sb rfl))⟩,(cb_ z)⟩ rfl (by kernel_rfl) rfl rfl rfl ?_
    refine tg_ hC [.K [6] []] rfl ?_
    cases h
    exact AK.met rfl
   refine AK.draw2 Ql hC mixed [.N,.a .no (some ([],.b true)) false,.a .no (some ([],.agg (Qs t))) false,.a (.cd false [.d] 1 (i.map Qi) i.length) none false,.a (.any (.s (Qa9 i)) none) none false,.a .no (some ([],.agg (Qs t))) false,.a (.cd false [.d] 1 (j.map Qi) j.length) none false,.a (.any (.s (Qa9 j)) none) none false,.N,.N,.a .no (some ([],.b false)) false,.N,.N,.N,.N,.N,.N,.N,.N,.N,.N,.N,.N,.N,.N,.N,.N,.N,.N,.N,.N,.N,.N,.N] [] [] [6] [] rfl rfl rfl ⟨⟨⟨⟨⟨⟨⟨(tc_ m),rfl⟩,⟨(QaZ _ x),Qj⟩⟩,(fun σ f A _=>Stp.b2s rfl rfl (Qo hC.n rfl) (f _ _ rfl) rfl Qdp QaP (Ql.sb rfl))⟩,rfl⟩,⟨(QbG _ y),Qj⟩⟩,(fun σ f A _=>Stp.b2s rfl rfl (Qo hC.n rfl) (f _ _ rfl) rfl Qdp QaP (Ql.sb rfl))⟩,(cb_ w)⟩ rfl (by kernel_rfl) rfl rfl rfl ?_
   refine tg_ hC [.K [6] []] rfl ?_
   cases h
   exact AK.met rfl
  refine AK.draw2 Ql hC mixed [.N,.a .no (some ([],.b false)) false,.N,.N,.N,.N,.N,.N,.N,.N,.N,.N,.N,.N,.N,.N,.N,.N,.N,.N,.N,.N,.N,.N,.N,.N,.N,.N,.N,.N,.N,.N,.N,.N] [] [] [6] [] rfl rfl rfl (tc_ m) rfl (by kernel_rfl) rfl rfl rfl ?_
  refine tg_ hC [.K [6] []] rfl ?_
  cases h
  exact AK.met rfl
 rintro σ rfl
 replace h:QcL P=some r:=h
 refine tg_ hC [.n 2] rfl ?_
 cases h
 exact d1_ rfl rfl tt_

end Go.Proofs
