/- What functions of the program do, as functions over plain data, and the walks that show it: printed by a program. -/
import Derived.Test.YtbcmaoldnhphlaaU1V3
import Derived.Test.YtbcmaoldnhphlaaU1V3
import Derived.Test.YtbcmaoldnhphlaaProg
set_option linter.unusedVariables false
set_option linter.unusedSimpArgs false
set_option linter.unusedSectionVars false
set_option linter.deprecated false
set_option maxRecDepth 100000
set_option maxHeartbeats 4000000
noncomputable section
namespace Go.Proofs
open Go Go.RowKit Go.Vm Go.Proofs.Try
structure Qac where
 Task:Int
 Vars:(List Int)
 Ins:(List Int)
 Outs:(List Int)
structure QV where
 Most:Int
 Enough:Int
 Open:Int
 Done:Int
 Failed:Int
structure Qe where
 Id:Int
 Mode:Qac
 Batch:QV
 Until:Int
structure QbM where
 Do:Int
 Id:Int
 Mode:Qac
 Num:Int
structure Qg where
 b:(List Int)
 bad:Bool
structure QbY where
 M:(List (List (Int×Int)))
 Items:(List Qe)
 Next:Int
 Now:Int
structure Qf where
 id:Int
 at_:Int
 place:Int
structure Qo where
 L:(List (Int×Int))
def Qr (x:Int):List V:=[.i .i64 x]
theorem QjR (l:List Int):∀r∈l.map Qr,∀v∈r,v.sca=true:=QoX (fun _=>rfl) l
def QnV (x:(List Int)):List V:=[.sl 1 (x.map Qr)]
def QU (x:Qac):List V:=[.i .i64 x.Task,.sl 1 (x.Vars.map Qr),.sl 1 (x.Ins.map Qr),.sl 1 (x.Outs.map Qr)]
def QT (x:QV):List V:=[.i .i64 x.Most,.i .i64 x.Enough,.i .i64 x.Open,.i .i64 x.Done,.i .i64 x.Failed]
def Qb (x:Qe):List V:=[.i .i64 x.Id,.i .i64 x.Mode.Task,.sl 1 (x.Mode.Vars.map Qr),.sl 1 (x.Mode.Ins.map Qr),.sl 1 (x.Mode.Outs.map Qr),.i .i64 x.Batch.Most,.i .i64 x.Batch.Enough,.i .i64 x.Batch.Open,.i .i64 x.Batch.Done,.i .i64 x.Batch.Failed,.i .i64 x.Until]
def QC (β:Nat)(x:Qe):List V:=[.i .i64 x.Id,.i .i64 x.Mode.Task,.sln β 1 (x.Mode.Vars.map Qr),.sln β 1 (x.Mode.Ins.map Qr),.sln β 1 (x.Mode.Outs.map Qr),.i .i64 x.Batch.Most,.i .i64 x.Batch.Enough,.i .i64 x.Batch.Open,.i .i64 x.Batch.Done,.i .i64 x.Batch.Failed,.i .i64 x.Until]
theorem Qnv (β:Nat)(x:Qe):Qmx β (QC β x):=⟨rfl,rfl,⟨rfl,QjR _⟩,⟨rfl,QjR _⟩,⟨rfl,QjR _⟩,rfl,rfl,rfl,rfl,rfl,rfl,trivial⟩
def QX (x:QbM):List V:=[.i .i64 x.Do,.i .i64 x.Id,.i .i64 x.Mode.Task,.sl 1 (x.Mode.Vars.map Qr),.sl 1 (x.Mode.Ins.map Qr),.sl 1 (x.Mode.Outs.map Qr),.i .i64 x.Num]
def Qs (x:Int):List V:=[.i .u8 x]
def Qc (x:Qg):List V:=[.sl 1 (x.b.map Qs),.b x.bad]
def Qv (x:(Int×Int)):List V:=[.i .i64 x.1,.i .i64 x.2]
def Qam (x:(List (Int×Int))):List V:=[.sl 2 (x.map Qv)]
def Qk3 (x:(List Qe)):List V:=[.sl 11 (x.map Qb)]
def Qaf (x:QbY):List V:=[.sl 1 (x.M.map Qam),.sl 11 (x.Items.map Qb),.i .i64 x.Next,.i .i64 x.Now]
def Qi (x:Qf):List V:=[.i .i64 x.id,.i .i64 x.at_,.i .i64 x.place]
def Qq (x:Qo):List V:=[.sl 2 (x.L.map Qv)]
theorem QoR (a0 a1 a2 a3 a4 b0 b1 b2 b3 b4:Int):EqT Try.prog 27 [.int .i64 a0,.int .i64 a1,.int .i64 a2,.int .i64 a3,.int .i64 a4] [.int .i64 b0,.int .i64 b1,.int .i64 b2,.int .i64 b3,.int .i64 b4] ((a0==b0)&&((a1==b1)&&((a2==b2)&&((a3==b3)&&(a4==b4))))):=by
 refine⟨by kernel_rfl,fun w=>?_⟩
 have u3:=Try.underlying3
 have g3:=Try.isAgg3
 have z3:=Try.sizeOf3
 have hS:Try.prog.underlying 27=some (.struct (Try.prog.fieldsOf 27)):=by kernel_rfl
 have hp:Try.prog.stoodInHeld 27=false:=by kernel_rfl
 show(Op.equalIn (9999+1) 27 (.agg #[.int .i64 a0,.int .i64 a1,.int .i64 a2,.int .i64 a3,.int .i64 a4]) (.agg #[.int .i64 b0,.int .i64 b1,.int .i64 b2,.int .i64 b3,.int .i64 b4])).run Try.prog w=_
 rw [run_equalIn_agg w 9999 27 _ _ hS hp]
 simp only [Program.fieldsOf,Try.underlying27]
 go_simp
 by_cases h0:a0=b0<;>by_cases h1:a1=b1<;>by_cases h2:a2=b2<;>by_cases h3:a3=b3<;>by_cases h4:a4=b4<;>simp [h0,h1,h2,h3,h4]
theorem QpM (a0 a1 b0 b1:Int):EqT Try.prog 64 [.int .i64 a0,.int .i64 a1] [.int .i64 b0,.int .i64 b1] ((a0==b0)&&(a1==b1)):=by
 refine⟨by kernel_rfl,fun w=>?_⟩
 have u3:=Try.underlying3
 have g3:=Try.isAgg3
 have z3:=Try.sizeOf3
 show(Op.equalIn (9999+1) 64 (.agg #[.int .i64 a0,.int .i64 a1]) (.agg #[.int .i64 b0,.int .i64 b1])).run Try.prog w=_
 rw [Op.equalIn]
 simp only [Sem.run_bind,run_underlying Try.underlying64,Result.andThen_ok]
 simp only [Std.Legacy.Range.forIn_eq_forIn_range',Std.Legacy.Range.size,Nat.sub_zero,Nat.add_sub_cancel,Nat.div_one,List.range'_succ,List.range'_zero,List.forIn_cons,List.forIn_nil]
 go_simp
 by_cases h0:a0=b0<;>by_cases h1:a1=b1<;>simp [h0,h1]
def QnW : Go.Shelf.Ren:=⟨fun | 22=>39 | 29=>80 | 30=>81 | n=>n,fun | 24=>22 | 9=>29 | n=>n,fun n=>n⟩
theorem Qnw : QjQ Try.prog QnW "slices.Insert[[]baldric/api.Item,baldric/api.Item]" "slices.overlaps[baldric/api.Item]" 29 11 136 (.agg #[.int .i64 0,.int .i64 0,.slice none 0 0,.slice none 0 0,.slice none 0 0,.int .i64 0,.int .i64 0,.int .i64 0,.int .i64 0,.int .i64 0,.int .i64 0]) where
 mixed:=by kernel_rfl
 f22:=Try.func39.trans (congrArg some (by kernel_rfl))
 f29:=Try.func80.trans (congrArg some (by kernel_rfl))
 nm:=by kernel_rfl
 nx:=by kernel_rfl
 fd:=by kernel_rfl
 t0:=Try.underlying0
 t3:=Try.underlying3
 t4:=Try.underlying4
 t24:=Try.underlying22
 zE:=Try.sizeOf29
 iE:=by kernel_rfl
 zc:=by kernel_rfl
 z0:=by decide
 small:=by decide
theorem Qis : Qkx Try.prog 129 .u64=true:=by kernel_rfl
theorem QoA : Qkx Try.prog 3 .i64=true:=by kernel_rfl
theorem QoB : Qkx Try.prog 5 .u8=true:=by kernel_rfl
theorem Qmz : QeP Try.prog 3 (V.i .i64) (Value.int .i64):=QeP.int (by kernel_rfl)
theorem Qnx : (QcD Try.prog 120 "Pop" = some (127,true)∧Qkv Try.prog 120=true)∨(QcD Try.prog 120 "Pop" = some (127,false)∧Qhg Try.prog 120=true):=.inl ⟨by kernel_rfl,by kernel_rfl⟩
theorem QmR : (QcD Try.prog 120 "Push" = some (128,true)∧Qkv Try.prog 120=true)∨(QcD Try.prog 120 "Push" = some (128,false)∧Qhg Try.prog 120=true):=.inl ⟨by kernel_rfl,by kernel_rfl⟩
theorem mixed : Try.prog.follows .mixedOrders=true:=by kernel_rfl
theorem QmA : Qib Try.prog 111=some (3,116):=by kernel_rfl
theorem QoS : Qib Try.prog 74=some (3,4):=by kernel_rfl
theorem Qk4 : QcD Try.prog 120 "Len" = some (124,false)∧QhO Try.prog 120 113=true∧QbR Try.prog 113=some false:=⟨by kernel_rfl,by kernel_rfl,by kernel_rfl⟩
theorem Qif : QcD Try.prog 120 "Less" = some (125,false)∧QhO Try.prog 120 113=true∧QbR Try.prog 113=some false:=⟨by kernel_rfl,by kernel_rfl,by kernel_rfl⟩
theorem Qig : QcD Try.prog 120 "Swap" = some (126,false)∧QhO Try.prog 120 113=true∧QbR Try.prog 113=some false:=⟨by kernel_rfl,by kernel_rfl,by kernel_rfl⟩
theorem QpN : Try.prog.underlying 23=some (.slice 3):=by kernel_rfl
theorem Qpu : Try.prog.underlying 116=some (.pointer 118):=by kernel_rfl
theorem Qpv : Qfo Try.prog 116 (.lit (.pointer none)):=Qfo.one (v:=.pointer none) (by kernel_rfl)
theorem Qp5 : Qfo Try.prog 4 (V.b false):=Qfo.one (v:=.bool false) (by kernel_rfl)
theorem Qp6 : Qab Try.prog 3=some [.i .i64 0]:=by kernel_rfl
theorem Qp7 : Qab Try.prog 5=some [.i .u8 0]:=by kernel_rfl
theorem QpO : Qab Try.prog 25=some [.i .i64 0,.lit (.slice none 0 0),.lit (.slice none 0 0),.lit (.slice none 0 0)]:=by kernel_rfl
theorem QpP : Qab Try.prog 27=some [.i .i64 0,.i .i64 0,.i .i64 0,.i .i64 0,.i .i64 0]:=by kernel_rfl
theorem QpQ : Qab Try.prog 29=some [.i .i64 0,.i .i64 0,.lit (.slice none 0 0),.lit (.slice none 0 0),.lit (.slice none 0 0),.i .i64 0,.i .i64 0,.i .i64 0,.i .i64 0,.i .i64 0,.i .i64 0]:=by kernel_rfl
theorem QpR : Qab Try.prog 43=some [.lit (.slice none 0 0),.lit (.slice none 0 0),.i .i64 0,.i .i64 0]:=by kernel_rfl
theorem QpS : Qab Try.prog 45=some [.i .i64 0,.i .i64 0,.i .i64 0,.lit (.slice none 0 0),.lit (.slice none 0 0),.lit (.slice none 0 0),.i .i64 0]:=by kernel_rfl
theorem QpT : Qab Try.prog 64=some [.i .i64 0,.i .i64 0]:=by kernel_rfl
theorem QpU : Qab Try.prog 66=some [.lit (.slice none 0 0)]:=by kernel_rfl
theorem QpV : Qab Try.prog 93=some [.lit (.slice none 0 0),.b false]:=by kernel_rfl
theorem Qjb : Qab Try.prog 95=some [.lit (.pointer none)]:=by kernel_rfl
theorem Qpw : Qab Try.prog 115=some [.lit (.slice none 0 0),.lit (.map none)]:=by kernel_rfl
theorem Qpx : Qab Try.prog 116=some [.lit (.pointer none)]:=by kernel_rfl
theorem Qpy : Qab Try.prog 118=some [.i .i64 0,.i .i64 0,.i .i64 0]:=by kernel_rfl
theorem Qpz : Qab Try.prog 125=some [.lit (.slice none 0 0)]:=by kernel_rfl
theorem QnX : Qab Try.prog 140=some [.lit (.pointer none)]:=by kernel_rfl
def tab : Tab:={ ag:=[(3,false),(4,false),(5,false),(22,false),(23,false),(25,true),(27,true),(29,true),(41,false),(43,true),(45,true),(47,false),(64,true),(65,false),(66,false),(95,false),(111,false),(113,false),(116,false),(140,false)],sz:=[(3,1),(4,1),(22,1),(23,1),(25,4),(27,5),(29,11),(41,1),(43,4),(45,7),(47,1),(64,2),(65,1),(113,1),(116,1)],fo:=[(25,[0,1,2,3]),(27,[0,1,2,3,4]),(29,[0,1,5,10]),(43,[0,1,2,3]),(45,[0,1,2,6]),(93,[0,1]),(115,[0,1]),(118,[0,1,2]),(125,[0])],sp:=[(25,[(0,1),(1,1),(2,1),(3,1)]),(27,[(0,1),(1,1),(2,1),(3,1),(4,1)]),(29,[(0,1),(1,4),(5,5),(10,1)]),(43,[(0,1),(1,1),(2,1),(3,1)]),(45,[(0,1),(1,1),(2,4),(6,1)]),(93,[(0,1),(1,1)]),(115,[(0,1),(1,1)]),(118,[(0,1),(1,1),(2,1)]),(125,[(0,1)])],es:=[(22,(29,11,136)),(23,(3,1,8)),(40,(66,1,24)),(41,(66,1,24)),(47,(5,1,1)),(65,(64,2,16)),(66,(64,2,16)),(113,(116,1,8)),(135,(95,1,8)),(141,(140,1,8))],ar:=[(64,(2,1))],zv:=[(3,[.i .i64 0]),(5,[.i .u8 0]),(25,[.i .i64 0,.lit (.slice none 0 0),.lit (.slice none 0 0),.lit (.slice none 0 0)]),(27,[.i .i64 0,.i .i64 0,.i .i64 0,.i .i64 0,.i .i64 0]),(29,[.i .i64 0,.i .i64 0,.lit (.slice none 0 0),.lit (.slice none 0 0),.lit (.slice none 0 0),.i .i64 0,.i .i64 0,.i .i64 0,.i .i64 0,.i .i64 0,.i .i64 0]),(43,[.lit (.slice none 0 0),.lit (.slice none 0 0),.i .i64 0,.i .i64 0]),(45,[.i .i64 0,.i .i64 0,.i .i64 0,.lit (.slice none 0 0),.lit (.slice none 0 0),.lit (.slice none 0 0),.i .i64 0]),(64,[.i .i64 0,.i .i64 0]),(66,[.lit (.slice none 0 0)]),(93,[.lit (.slice none 0 0),.b false]),(95,[.lit (.pointer none)]),(115,[.lit (.slice none 0 0),.lit (.map none)]),(116,[.lit (.pointer none)]),(118,[.i .i64 0,.i .i64 0,.i .i64 0]),(125,[.lit (.slice none 0 0)]),(140,[.lit (.pointer none)])],sb:=[],bo:=[4],cc:=[116,120],en:=[9,10,11,12,13,14,15,16,17,18,19,20,21,22,24,26,28,30,32,36,37,38,39,40,41,42,43,44,45,46,47,48,49,50,51,52,53,54,55,56,57,58,61,62,63,64,65,67,68,69,70,71,72,76,77,78,79,82,83,84,85,86,87,88,89,90,91,92,94,95,96,98,99,100,102,104,105,124,125,126,127,128] }
theorem Qk : Qbl Try.prog tab:=Tab.ok (by kernel_rfl) (QcW.2 ⟨Qp6,QcW.2 ⟨Qp7,QcW.2 ⟨QpO,QcW.2 ⟨QpP,QcW.2 ⟨QpQ,QcW.2 ⟨QpR,QcW.2 ⟨QpS,QcW.2 ⟨QpT,QcW.2 ⟨QpU,QcW.2 ⟨QpV,QcW.2 ⟨Qjb,QcW.2 ⟨Qpw,QcW.2 ⟨Qpx,QcW.2 ⟨Qpy,QcW.2 ⟨Qpz,QcW.2 ⟨QnX,fun _ h=>(by cases h)⟩⟩⟩⟩⟩⟩⟩⟩⟩⟩⟩⟩⟩⟩⟩⟩)
theorem Qa {C:Ctx}{Q:Exit→St→Prop}{n:Nat}{pt pt1:Pt}{ks ks1:List Fr}{σ σ1:St}{φ:Prop}(hC:QcC Try.prog C n)(ds:List Dir)(e:Vm.go Try.prog C tab n ds pt ks σ True=some ⟨pt1,ks1,σ1,φ⟩)(hφ:φ)(h:AK Try.prog C Q pt1 ks1 σ1):AK Try.prog C Q pt ks σ:=AK.go Qk hC ds e hφ h
abbrev QBg := List (Int×Int)
abbrev QMk := List QBg
abbrev QLL := List (List Int)
abbrev QSB := List (ByteArray×Bool)
theorem tt_ : True:=trivial
theorem an_ {a b:Prop}(x:a)(y:b):a∧b:=⟨x,y⟩
theorem ex_ {α:Sort _}{p:α→Prop}(w:α)(h:p w):∃x,p x:=⟨w,h⟩
end Go.Proofs
namespace Go.Vm
open Go Go.RowKit
noncomputable abbrev Dir.K (a b:List Nat):Dir:=.keep a b
noncomputable abbrev Dir.S (a:Nat)(b:V):Dir:=.say a b
noncomputable abbrev Dir.O (a:Nat)(b:Ob):Dir:=.sayO a b
noncomputable abbrev Dir.T:Dir:=.br true
noncomputable abbrev Dir.F:Dir:=.br false
noncomputable abbrev Dw.N:Dw:=.a .no none false
noncomputable abbrev V.I (n:Int):V:=.i .i64 n
end Go.Vm
namespace Go.Proofs
open Go Go.RowKit Go.Vm Go.Proofs.Try
theorem bg_ {α:Type}{c:Bool}{x y:Option α}{r:α}{G:Prop}(h:(bif c then x else y)=some r)(f:c=true→x=some r→G)(g:c=false→y=some r→G):G:=by
 cases c
 ·exact g rfl h
 exact f rfl h
theorem cb_ {a b:Bool}(h:a=b):V.b a=V.b b:=congrArg V.b h
theorem tc_ {a b:Bool}(h:a=b):True∧V.b a=V.b b:=⟨trivial,congrArg V.b h⟩
def QpA : Exit→Bool
 | .normal=>true
 | .ret=>true
 | _=>false
theorem d1_ {C:Ctx}{t:Nat}{r:V}{outs:List (Nat×Ob)}{σ:St}{e:Exit}(he:QpA e=true)(h:Go.Vm.look σ.fr t=some r)(hs:QcZ σ.hp outs):AK Try.prog C (Qlo Try.prog [.tmp t] (Qp r outs)) (.x e) [] σ:=by
 cases e<;>first | exact AK.done ⟨[r],⟨h,trivial⟩,Qas hs⟩|cases he
theorem d2_ {C:Ctx}{t u:Nat}{r s:V}{outs:List (Nat×Ob)}{σ:St}{e:Exit}(he:QpA e=true)(h:Go.Vm.look σ.fr t=some r)(k:Go.Vm.look σ.fr u=some s)(hs:QcZ σ.hp outs):AK Try.prog C (Qlo Try.prog [.tmp t,.tmp u] (Qp (.tup [r,s]) outs)) (.x e) [] σ:=by
 cases e<;>first | exact AK.done ⟨[r,s],⟨h,k,trivial⟩,Qas hs⟩|cases he
theorem tg_ {C:Ctx}{Q:Exit→St→Prop}{n:Nat}{pt pt1:Pt}{ks ks1:List Fr}{σ σ1:St}(hC:QcC Try.prog C n)(ds:List Dir)(e:Vm.go Try.prog C tab n ds pt ks σ True=some ⟨pt1,ks1,σ1,True⟩)(h:AK Try.prog C Q pt1 ks1 σ1):AK Try.prog C Q pt ks σ:=AK.go Qk hC ds e trivial h
theorem QaV {c:Bool}{β:Type}{f:Unit→Option β}{r:β}(h:(chk c).bind f=some r):c=true∧f ()=some r:=by
 obtain⟨_,k,h⟩:=Qd h
 exact⟨Qpk k,h⟩
def Qfs (b:Int)(a:Int):Option Qe:=
 some (Qe.mk b (Qac.mk 0 ([]:(List Int)) ([0]:List Int) ([0]:List Int)) (QV.mk 2 1 1 0 0) a)
theorem Qft (b a){r}(h:Qfs b a=some r):Qh prog 36 [.I b,.I a] [] (Qp (.agg (Qb r)) []):=by
 refine Qh.walk 12 func36 rfl rfl rfl fun C hC=>?_
 refine Qa hC [.n 9,.v .no [] (.agg (QT (QV.mk 2 1 1 0 0))),.v (.bd []) [] (.sl 1 (([0]:List Int).map Qr)),.v (.bd []) [] (.sl 1 (([0]:List Int).map Qr)),.v .no [none,some 1,none,none] (.agg (QU (Qac.mk 0 ([]:(List Int)) ([0]:List Int) ([0]:List Int)))),.v .no [] (.agg (Qb (Qe.mk b (Qac.mk 0 ([]:(List Int)) ([0]:List Int) ([0]:List Int)) (QV.mk 2 1 1 0 0) a))),.n 1,.O 4 (.var (Qb (Qe.mk b (Qac.mk 0 ([]:(List Int)) ([0]:List Int) ([0]:List Int)) (QV.mk 2 1 1 0 0) a))),.n 3,.K [4] [4]] rfl ⟨⟨⟨⟨⟨⟨tt_,rfl⟩,rfl⟩,rfl⟩,rfl⟩,rfl⟩,rfl⟩ ?_
 cases h
 exact AK.done (ex_ [_] (an_ (an_ (ex_ _ (ex_ _ (an_ rfl (an_ rfl (Or.inl (an_ (Qk.ag rfl) (an_ (Qk.sz rfl) rfl))))))) tt_) (Qas tt_)))
def Qax (a:(List Int)):Option (List Int):=
 (chk (decide ((([]:List Int).length+a.length)*8≤140737488355328))).bind fun _=>
 some (([]:List Int)++a)
theorem Qcc (a){r}(h:Qax a=some r):Qh prog 82 [.sl 1 (a.map Qr)] [] (Qp (.own 600 r.length) [(600,.arr 1 (r.map Qr))]):=by
 refine Qh.walk 8 func82 rfl rfl rfl fun C hC=>?_
 unfold Qax at h
 refine tg_ hC [.n 9] rfl ?_
 refine AK.eqNil rfl rfl rfl (Qt hC.n rfl) rfl rfl QpN ?_ ?_
 ·intro b
  replace h:some ([]:List Int)=some r:=by simpa [chk,List.map_eq_nil_iff.1 b] using h
  refine Qa hC [.n 10,.adopt 2 600 1,.O 600 (.arr 1 (([]:List Int).map Qr)),.S 2 (.own 600 ([]:List Int).length)] rfl ⟨⟨tt_,rfl⟩,rfl⟩ ?_
  cases h
  exact d1_ rfl rfl ⟨rfl,tt_⟩
 obtain⟨c,h⟩:=QaV h
 refine Qa hC [.n 8,.O 5 (.arr 1 (([]:List Int).map Qr)),.S 5 (.own 5 ([]:List Int).length),.n 1,.x (fun σ=>σ.app 5 1 7 (([]:List Int)++a).length ((([]:List Int)++a).map Qr)),.n 4,.K [2] [5],.ren 5 600] rfl ⟨⟨⟨tt_,rfl⟩,rfl⟩,(Stp.appSB (by_:=8) (zs:=[.I 0]) (e:=3) (e':=3) (z':=1) (by':=8) rfl rfl (Qt hC.n rfl) rfl rfl rfl Qj (by kernel_rfl) (by kernel_rfl) (by kernel_rfl) rfl (by decide) (by decide) (Qo2 c Qj) rfl QaZ (Qcb Qj))⟩ ?_
 cases h
 exact d1_ rfl rfl ⟨rfl,tt_⟩
def Qc4 (a:Qe):Option Qe:=
 (Qax a.Mode.Vars).bind fun b=>
 (Qax a.Mode.Ins).bind fun c=>
 (Qax a.Mode.Outs).bind fun d=>
 some (Qe.mk a.Id (Qac.mk a.Mode.Task b c d) a.Batch a.Until)
theorem Qgo (β:Nat)(b:Qe){r:Qe}(h:Qc4 b=some r):QW β prog 40 [.agg (Qb b)] [] (Qp (.agg (QC β r)) []):=by
 refine QW.walk 22 func40 rfl ntmps40 rfl fun C hC hβ=>?_
 obtain⟨c,g,h⟩:=Qd h
 obtain⟨e,i,h⟩:=Qd h
 obtain⟨f,j,h⟩:=Qd h
 refine tg_ hC [.n 7,.K [1,2] [1,2]] rfl ?_
 refine AK.draw2 Qk hC mixed [.N,.N,.N,.a (.cdn β false [.d] 1 (c.map Qr) c.length) none false,.N,.N,.N,.a (.cdn β false [.d] 1 (e.map Qr) e.length) none false,.N,.N,.N,.a (.cdn β false [.d] 1 (f.map Qr) f.length) none false,.N,.N,.m .s,.N,.N,.m .s,.N,.N,.m .s] [] [] [1,2] [1,2] rfl rfl rfl ⟨⟨⟨tt_,⟨(Qcc _ g),Qj,hβ⟩⟩,⟨(Qcc _ i),Qj,hβ⟩⟩,⟨(Qcc _ j),Qj,hβ⟩⟩ rfl (by kernel_rfl) rfl rfl rfl ?_
 refine Qa hC [.O 1 (.var (QC β (Qe.mk b.Id (Qac.mk b.Mode.Task c e f) b.Batch b.Until))),.n 3,.v .no [] (.agg (QC β (Qe.mk b.Id (Qac.mk b.Mode.Task c e f) b.Batch b.Until))),.n 1,.O 2 (.var (QC β (Qe.mk b.Id (Qac.mk b.Mode.Task c e f) b.Batch b.Until))),.n 3,.K [2] [2]] rfl ⟨⟨⟨tt_,rfl⟩,rfl⟩,rfl⟩ ?_
 cases h
 exact AK.done (ex_ [_] (an_ (an_ (ex_ _ (ex_ _ (an_ rfl (an_ rfl (Or.inl (an_ (Qk.ag rfl) (an_ (Qk.sz rfl) rfl))))))) tt_) (Qas tt_)))
def Qfu (b:Int)(a:(List Qe)):Option ((Int×(List Qe))⊕(List Qe)):=
 some (.inl ((w64 (b+1)),a))
def Qbn (f:(List Qe))(e:Int)(c:Int)(d:(List Qe)):Option ((Int×(List Qe))⊕(List Qe)):=
 bif (decide (c<(f.length:Int)))then
 (idx f c).bind fun a=>
 bif (a.Id != e)then
 (Qc4 a).bind fun b=>
 (chk (decide (d.length+([b]:List Qe).length≤4294967296))).bind fun _=>
 Qfu c (d++([b]:List Qe))
 else
 Qfu c d
 else
 some (.inr d)
def QhQ (a:(List Qe)):Option (List Qe):=
 some a
def Qct (b:(List Qe))(a:Int):Option (List Qe):=
 (QK (fun st=>Qbn b a st.1 st.2) (0,([]:List Qe))).bind (fun q=>QhQ q)
theorem Qhm (β:Nat)(j:(List Qe))(a:Int){r:(List Qe)}(h:Qct j a=some r):QW β prog 12 [.sl 11 (j.map Qb),.I a] [] (Qp (.own 600 r.length) [(600,.arr 11 (r.map (QC β)))]):=by
 refine QW.walk 25 func12 rfl ntmps12 rfl fun C hC hβ=>?_
 refine Qa hC [.n 14,.o (.ln j.length),.n 4,.adopt 5 18 11,.O 18 (.arr 11 (([]:List Qe).map (QC β))),.S 5 (.own 18 ([]:List Qe).length),.K [1,5,8,9,10] [18]] rfl ⟨⟨⟨tt_,Qj⟩,rfl⟩,(congrArg (fun n=>V.own 18 n) (by simp))⟩ ?_
 obtain⟨u,k,h⟩:=Qd h
 refine AK.loop (body:=(fun st=>Qbn j a st.1 st.2)) (fun st σ=>σ=⟨[(1,.I a),(5,.own 18 st.2.length),(8,.sl 11 (j.map Qb)),(9,.I (j.length:Int)),(10,.I st.1)],[(18,.arr 11 (st.2.map (QC β)))]⟩) (fun q e σ=>e=.exit 0∧σ=⟨[(5,.own 18 q.length)],[(18,.arr 11 (q.map (QC β)))]⟩) k rfl ?_ ?_
 ·rintro ⟨s,t⟩ o σ rfl h
  refine tg_ hC [.n 6] rfl ?_
  refine bg_ h (fun b h=>Qa hC [.T,.n 2] rfl ⟨tt_,b⟩ ?_) fun b h=>Qa hC [.F,.n 2,.K [5] [18]] rfl ⟨tt_,b⟩ ?_
  ·refine AK.meet (fun σ=>∃f:(List Qe),σ=⟨[(1,.I a),(5,.own 18 f.length),(8,.sl 11 (j.map Qb)),(9,.I (j.length:Int)),(10,.I s)],[(18,.arr 11 (f.map (QC β)))]⟩∧Qfu s f=some o) ?_ ?_
   ·obtain⟨g,l,h⟩:=Qd h
    refine Qa hC [.n 3,.o (.row (Qb g)),.v .no [] (.agg (Qb g)),.n 2,.O 7 (.var (Qb g)),.n 10] rfl ⟨⟨⟨tt_,(Qar l)⟩,rfl⟩,rfl⟩ ?_
    rcases QB h with⟨c,h⟩|⟨c,h⟩
    ·obtain⟨i,m,h⟩:=Qd h
     obtain⟨p,h⟩:=QaV h
     refine Qa hC [.T,.n 2,.v .no [] (.agg (Qb g)),.o (.cb β false [.d] (.agg (QC β i))),.v (.bd []) [] (.sl 11 (([i]:List Qe).map (QC β))),.app ((t++([i]:List Qe)).map (QC β)) (t++([i]:List Qe)).length,.n 3,.K [1,5,8,9,10] [18]] rfl ⟨⟨⟨⟨⟨tt_,c⟩,rfl⟩,⟨(Qgo β _ m),hβ⟩⟩,rfl⟩,⟨Qj,QbA p Qj,QaZ,Qcb Qj⟩⟩ ?_
     exact AK.met (ex_ _ (an_ rfl h))
    refine Qa hC [.F,.n 2,.K [1,5,8,9,10] [18]] rfl ⟨tt_,c⟩ ?_
    exact AK.met (ex_ _ (an_ rfl h))
   rintro σ ⟨f,rfl,h⟩
   refine tg_ hC [.n 4,.K [1,5,8,9,10] [18]] rfl ?_
   cases h
   exact QaR rfl rfl
  cases h
  exact QaM rfl (an_ rfl rfl)
 replace h:QhQ u=some r:=h
 rintro e σ ⟨rfl,rfl⟩
 refine tg_ hC [.n 9,.K [4] [18],.ren 18 600,.K [4] [600]] rfl ?_
 cases h
 exact AK.done (ex_ [_] (an_ (an_ rfl tt_) (Qas ⟨rfl,tt_⟩)))
theorem QhR (b a){r}(h:Qct b a=some r):Qh prog 12 [.sl 11 (b.map Qb),.I a] [] (Qp (.own 600 r.length) [(600,.arr 11 (r.map Qb))]):=(Qhm 0 b a h).loO (QoQ fun _=>rfl)
def QgD (a:Qe)(b:Qe):Option Bool:=
 some (decide (b.Id<a.Id))
theorem Qkg (β:Nat)(c:Qe)(a:Qe){r:Bool}(h:QgD c a=some r):Qh prog 38 [.agg (QC β c),.loc 607 0 0] [(607,.var (Qb a))] (Qp (.b r) [(607,.var (Qb a))]):=by
 refine Qh.walk 9 func38 rfl rfl rfl fun C hC=>?_
 refine tg_ hC [.n 17,.K [3] [607]] rfl ?_
 cases h
 exact AK.done (ex_ [_] (an_ (an_ rfl tt_) (Qas ⟨rfl,tt_⟩)))
def QH (c:(List Qe))(d:Qe)(a:Int):Option (Int⊕(Int⊕Unit)):=
 bif (decide (a<(c.length:Int)))then
 (idx c a).bind fun e=>
 (QgD e d).bind fun b=>
 bif b then
 some (.inr (.inl a))
 else
 some (.inl (w64 (a+1)))
 else
 some (.inr (.inr ()))
def Qbs (a:Int):Option Int:=
 some a
def Qbt : Option Int:=
 some (-1)
def Qat (a:(List Qe))(b:Qe):Option Int:=
 (QK (fun st=>QH a b st) 0).bind (Sum.elim (fun q=>Qbs q) (fun q=>Qbt))
theorem Qdo (β:Nat)(c:(List Qe))(f:Qe){r:Int}(h:Qat c f=some r):Qh prog 37 [.own 607 c.length,.clo (.func 38) [] [.loc 608 0 0]] [(607,.arr 11 (c.map (QC β))),(608,.var (Qb f))] (Qp (.I r) [(607,.arr 11 (c.map (QC β))),(608,.var (Qb f))]):=by
 refine Qh.walk 19 func37 rfl rfl rfl fun C hC=>?_
 refine tg_ hC [.n 14,.K [0,1,7,8] [607,608]] rfl ?_
 obtain⟨l,i,h⟩:=Qd h
 refine AK.loop (body:=(fun st=>QH c f st)) (fun st σ=>σ=⟨[(0,.own 607 c.length),(1,.clo (.func 38) [] [.loc 608 0 0]),(7,.I (c.length:Int)),(8,.I st)],[(607,.arr 11 (c.map (QC β))),(608,.var (Qb f))]⟩) (Sum.elim (fun q e σ=>e=.ret∧σ=⟨[(4,.I q)],[(607,.arr 11 (c.map (QC β))),(608,.var (Qb f))]⟩) (fun q e σ=>e=.exit 0∧σ=⟨[],[(607,.arr 11 (c.map (QC β))),(608,.var (Qb f))]⟩)) i rfl ?_ ?_
 ·rintro t o σ rfl h
  refine tg_ hC [.n 6] rfl ?_
  rcases QB h with⟨g,h⟩|⟨g,h⟩
  ·obtain⟨p,j,h⟩:=Qd h
   obtain⟨m,k,h⟩:=Qd h
   refine Qa hC [.T,.n 16,.v (.row (QC β p)) [] (.agg (QC β p)),.cm (.clo) [(607,608)] [(608,607)] [] [.d,.d] [(607,.var (Qb f))] (.b m),.n 2] rfl ⟨⟨⟨⟨⟨tt_,g⟩,(Qbm j rfl)⟩,(QS (Qbk j).2)⟩,rfl⟩,(Qkg β _ _ k)⟩ ?_
   refine bg_ h (fun a h=>Qa hC [.T,.n 9,.K [4] [607,608]] rfl ⟨tt_,a⟩ ?_) fun a h=>Qa hC [.F,.n 7,.K [0,1,7,8] [607,608]] rfl ⟨tt_,a⟩ ?_
   ·cases h
    exact QfS rfl (an_ rfl rfl)
   cases h
   exact QaR rfl rfl
  refine Qa hC [.F,.n 2,.K [] [607,608]] rfl ⟨tt_,g⟩ ?_
  cases h
  exact QaM rfl (an_ rfl rfl)
 rcases l with(s | _)
 ·replace h:Qbs s=some r:=h
  rintro e σ ⟨rfl,rfl⟩
  refine tg_ hC [.n 2,.K [4] [607,608]] rfl ?_
  cases h
  exact AK.done (ex_ [_] (an_ (an_ rfl tt_) (Qas ⟨rfl,rfl,tt_⟩)))
 replace h:Qbt=some r:=h
 rintro e σ ⟨rfl,rfl⟩
 refine tg_ hC [.n 8,.K [4] [607,608]] rfl ?_
 cases h
 exact AK.done (ex_ [_] (an_ (an_ rfl tt_) (Qas ⟨rfl,rfl,tt_⟩)))
def QY (l:(List Qe))(i:Int)(m:(List Qe)):Option (List Qe):=match m with
 | [u]=>(chk (decide (0≤i)&&decide (i.toNat≤l.length)&&decide (l.length+1≤4294967296))).bind fun _=>some (l.take i.toNat++u::l.drop i.toNat)
 | _=>none
theorem QdZ (β:Nat)(l:(List Qe))(i:Int)(m:(List Qe)){r:(List Qe)}(h:QY l i m=some r):Qh prog 39 [.own 605 l.length,.I i,.own 606 m.length] [(605,.arr 11 (l.map (QC β))),(606,.arr 11 (m.map (QC β)))] (Qp (.own 605 r.length) [(605,.arr 11 (r.map (QC β)))]):=by
 unfold QY at h
 split at h
 ·rename_i u
  obtain⟨_,a,h⟩:=Qd h
  replace a:=Qpk a
  simp only [Qu,Qbw]at a
  cases h
  have:=Qmy Qnw (l.map (QC β)) (QC β u) i a.1.1 (by rw [Qdi];exact a.1.2) (by rw [Qdi];exact a.2)
  rw [←List.map_take,←List.map_drop,←QbL,←QhG,Qdi,Qdi]at this
  exact this
 cases h
def Qei (a:Qe)(b:(List Qe))(at_6:Int):Option (List Qe):=
 (Qc4 a).bind fun c=>
 (QY b at_6 ([c]:List Qe)).bind fun d=>
 some d
def QbN (d:(List Qe))(a:Qe):Option (List Qe):=
 (Qct d a.Id).bind fun b=>
 (Qat b a).bind fun c=>
 bif (decide (c<0))then
 Qei a b (b.length:Int)
 else
 Qei a b c
theorem QhS (β:Nat)(k:(List Qe))(b:Qe){r:(List Qe)}(h:QbN k b=some r):QW β prog 11 [.sl 11 (k.map Qb),.agg (Qb b)] [] (Qp (.own 600 r.length) [(600,.arr 11 (r.map (QC β)))]):=by
 refine QW.walk 24 func11 rfl ntmps11 rfl fun C hC hβ=>?_
 obtain⟨c,e,h⟩:=Qd h
 obtain⟨m,f,h⟩:=Qd h
 refine Qa hC [.n 11,.o (.cob β false [.d,.d] 11 (c.map (QC β)) c.length),.n 7,.cm (.fn) [(607,10),(608,3)] [(10,607),(3,608)] [] [.d,.d] [(607,.arr 11 (c.map (QC β))),(608,.var (Qb b))] (.I m),.n 3] rfl ⟨⟨tt_,⟨(Qhm β _ _ e),Qj,.inl rfl,hβ⟩⟩,(Qdo β _ _ f)⟩ ?_
 refine AK.meet (fun σ=>∃at_6:Int,σ=⟨[(3,.loc 3 0 0),(5,.own 10 c.length),(6,.I at_6)],[(3,.var (Qb b)),(10,.arr 11 (c.map (QC β)))]⟩∧Qei b c at_6=some r) ?_ ?_
 ·refine tg_ hC [.n 6] rfl ?_
  refine bg_ h (fun a h=>Qa hC [.T,.n 5,.K [3,5,6] [3,10]] rfl ⟨tt_,a⟩ ?_) fun a h=>Qa hC [.F,.n 1,.K [3,5,6] [3,10]] rfl ⟨tt_,a⟩ ?_
  ·exact AK.met (ex_ _ (an_ rfl h))
  exact AK.met (ex_ _ (an_ rfl h))
 rintro σ ⟨at_6,rfl,h⟩
 obtain⟨g,i,h⟩:=Qd h
 obtain⟨l,j,h⟩:=Qd h
 refine Qa hC [.n 4,.v .no [] (.agg (Qb b)),.o (.cb β false [.d] (.agg (QC β g))),.n 1,.O 22 (.arr 11 (([g]:List Qe).map (QC β))),.S 22 (.own 22 ([g]:List Qe).length),.cm (.fn) [(605,10),(606,22)] [(10,605)] [10,22] [.d,.d,.d] [(605,.arr 11 (l.map (QC β)))] (.own 605 l.length),.n 4,.K [4] [10],.ren 10 600,.K [4] [600]] rfl ⟨⟨⟨⟨⟨tt_,rfl⟩,⟨(Qgo β _ i),hβ⟩⟩,rfl⟩,rfl⟩,(QdZ β _ _ _ j)⟩ ?_
 cases h
 exact AK.done (ex_ [_] (an_ (an_ rfl tt_) (Qas ⟨rfl,tt_⟩)))
theorem QbE (a b){r}(h:QbN a b=some r):Qh prog 11 [.sl 11 (a.map Qb),.agg (Qb b)] [] (Qp (.own 600 r.length) [(600,.arr 11 (r.map Qb))]):=(QhS 0 a b h).loO (QoQ fun _=>rfl)
def Qit (c:Int)(a:Int)(b:(List Int)):Option ((Int×(List Int))⊕(List Int)):=
 bif (decide (0≤a))then
 (chk (decide (0≤(w64 (8*a))))).bind fun _=>
 (chk (decide (b.length+([(IntKind.u8.wrap (Qeu .u64 (IntKind.u64.wrap c) (w64 (8*a))))]:List Int).length≤4294967296))).bind fun _=>
 some (.inl ((w64 (a-1)),(b++([(IntKind.u8.wrap (Qeu .u64 (IntKind.u64.wrap c) (w64 (8*a))))]:List Int))))
 else
 some (.inr b)
def Qiu (b:Int)(a:(List Int)):Option ((Int×(List Int))⊕(List Int)):=
 some (.inl ((w64 (b+1)),a))
def Qiv (c:(List Int))(a:Int)(d:(List Int)):Option ((Int×(List Int))⊕(List Int)):=
 bif (decide (a<(c.length:Int)))then
 (idx c a).bind fun b=>
 (QK (fun st=>Qit b st.1 st.2) (7,d)).bind (fun q=>Qiu a q)
 else
 some (.inr d)
def Qiw (a:(List Int)):Option (List Int):=
 some a
def Qih (a:(List Int)):Option (List Int):=
 (QK (fun st=>Qiv a st.1 st.2) (0,([]:List Int))).bind (fun q=>Qiw q)
theorem Qix (d){r}(h:Qih d=some r):Qh prog 56 [.lit (.slice none 0 0),.sl 1 (d.map Qr)] [] (Qp (.own 600 r.length) [(600,.arr 1 (r.map Qs))]):=by
 refine Qh.walk 29 func56 rfl rfl rfl fun C hC=>?_
 refine Qa hC [.n 9,.o (.ln d.length),.n 4,.adopt 0 18 1,.O 18 (.arr 1 (([]:List Int).map Qs)),.S 0 (.own 18 ([]:List Int).length),.K [0,8,9,10] [18]] rfl ⟨⟨⟨tt_,Qj⟩,rfl⟩,(congrArg (fun n=>V.own 18 n) (by simp))⟩ ?_
 obtain⟨x,j,h⟩:=Qd h
 refine AK.loop (body:=(fun st=>Qiv d st.1 st.2)) (fun st σ=>σ=⟨[(0,.own 18 st.2.length),(8,.sl 1 (d.map Qr)),(9,.I (d.length:Int)),(10,.I st.1)],[(18,.arr 1 (st.2.map Qs))]⟩) (fun q e σ=>e=.exit 0∧σ=⟨[(0,.own 18 q.length)],[(18,.arr 1 (q.map Qs))]⟩) j rfl ?_ ?_
 ·rintro ⟨t,y⟩ o σ rfl h
  refine tg_ hC [.n 6] rfl ?_
  rcases QB h with⟨f,h⟩|⟨f,h⟩
  ·obtain⟨a,k,h⟩:=Qd h
   refine Qa hC [.T,.n 6,.o (.row (Qr a)),.n 10,.K [0,6,7,8,9,10] [18]] rfl ⟨⟨tt_,f⟩,(Qar k)⟩ ?_
   obtain⟨u,l,h⟩:=Qd h
   refine AK.loop (body:=(fun st=>Qit a st.1 st.2)) (fun st σ=>σ=⟨[(0,.own 18 st.2.length),(6,.I a),(7,.I st.1),(8,.sl 1 (d.map Qr)),(9,.I (d.length:Int)),(10,.I t)],[(18,.arr 1 (st.2.map Qs))]⟩) (fun q e σ=>e=.exit 2∧σ=⟨[(0,.own 18 q.length),(8,.sl 1 (d.map Qr)),(9,.I (d.length:Int)),(10,.I t)],[(18,.arr 1 (q.map Qs))]⟩) l rfl ?_ ?_
   ·rintro ⟨b,m⟩ o σ rfl h
    refine tg_ hC [.n 7] rfl ?_
    rcases QB h with⟨c,h⟩|⟨c,h⟩
    ·obtain⟨p,h⟩:=QaV h
     obtain⟨s,h⟩:=QaV h
     refine Qa hC [.T,.n 7,.o (.any (.i .u64 (IntKind.u64.wrap a)) none),.n 2,.o (.any (.i .u64 (Qeu .u64 (IntKind.u64.wrap a) (w64 (8*b)))) none),.o (.any (.i .u8 (IntKind.u8.wrap (Qeu .u64 (IntKind.u64.wrap a) (w64 (8*b))))) none),.v (.bd []) [] (.sl 1 (([(IntKind.u8.wrap (Qeu .u64 (IntKind.u64.wrap a) (w64 (8*b))))]:List Int).map Qs)),.app ((m++([(IntKind.u8.wrap (Qeu .u64 (IntKind.u64.wrap a) (w64 (8*b))))]:List Int)).map Qs) (m++([(IntKind.u8.wrap (Qeu .u64 (IntKind.u64.wrap a) (w64 (8*b))))]:List Int)).length,.n 9,.K [0,6,7,8,9,10] [18]] rfl ⟨⟨⟨⟨⟨⟨tt_,c⟩,(fun σ g w _=>Stp.convI rfl rfl (Qt hC.n rfl) (g _ _ rfl) QoA Qis)⟩,(fun σ g w _=>Stp.shr rfl rfl (Qt hC.n rfl) (g _ _ rfl) (g _ _ rfl) (Qal p))⟩,(fun σ g w _=>Stp.convI rfl rfl (Qt hC.n rfl) (g _ _ rfl) Qis QoB)⟩,rfl⟩,⟨Qj,QbA s Qj,QaZ,Qcb Qj⟩⟩ ?_
     cases h
     exact QaR rfl rfl
    refine Qa hC [.F,.n 2,.K [0,8,9,10] [18]] rfl ⟨tt_,c⟩ ?_
    cases h
    exact QaM rfl (an_ rfl rfl)
   replace h:Qiu t u=some o:=h
   rintro e σ ⟨rfl,rfl⟩
   refine tg_ hC [.n 7,.K [0,8,9,10] [18]] rfl ?_
   cases h
   exact QaR rfl rfl
  refine Qa hC [.F,.n 2,.K [0] [18]] rfl ⟨tt_,f⟩ ?_
  cases h
  exact QaM rfl (an_ rfl rfl)
 replace h:Qiw x=some r:=h
 rintro e σ ⟨rfl,rfl⟩
 refine tg_ hC [.n 9,.K [4] [18],.ren 18 600] rfl ?_
 cases h
 exact d1_ rfl rfl ⟨rfl,tt_⟩
def QgF (c:Int)(a:Int)(b:(List Int)):Option ((Int×(List Int))⊕(List Int)):=
 bif (decide (0≤a))then
 (chk (decide (0≤(w64 (8*a))))).bind fun _=>
 (chk (decide (b.length+([(IntKind.u8.wrap (Qeu .u64 (IntKind.u64.wrap c) (w64 (8*a))))]:List Int).length≤4294967296))).bind fun _=>
 some (.inl ((w64 (a-1)),(b++([(IntKind.u8.wrap (Qeu .u64 (IntKind.u64.wrap c) (w64 (8*a))))]:List Int))))
 else
 some (.inr b)
def QgG (b:Int)(a:(List Int)):Option ((Int×(List Int))⊕(List Int)):=
 some (.inl ((w64 (b+1)),a))
def QgH (c:(List Int))(a:Int)(d:(List Int)):Option ((Int×(List Int))⊕(List Int)):=
 bif (decide (a<(c.length:Int)))then
 (idx c a).bind fun b=>
 (QK (fun st=>QgF b st.1 st.2) (7,d)).bind (fun q=>QgG a q)
 else
 some (.inr d)
def QgI (a:(List Int)):Option (List Int):=
 some a
def QaH (a:(List Int))(b:(List Int)):Option (List Int):=
 (QK (fun st=>QgH b st.1 st.2) (0,a)).bind (fun q=>QgI q)
theorem Qai (t f){r}(h:QaH t f=some r):Qh prog 56 [.own 605 t.length,.sl 1 (f.map Qr)] [(605,.arr 1 (t.map Qs))] (Qp (.own 605 r.length) [(605,.arr 1 (r.map Qs))]):=by
 refine Qh.walk 29 func56 rfl rfl rfl fun C hC=>?_
 refine Qa hC [.n 9,.o (.ln f.length),.n 4,.K [0,8,9,10] [605]] rfl ⟨tt_,Qj⟩ ?_
 obtain⟨y,j,h⟩:=Qd h
 refine AK.loop (body:=(fun st=>QgH f st.1 st.2)) (fun st σ=>σ=⟨[(0,.own 605 st.2.length),(8,.sl 1 (f.map Qr)),(9,.I (f.length:Int)),(10,.I st.1)],[(605,.arr 1 (st.2.map Qs))]⟩) (fun q e σ=>e=.exit 0∧σ=⟨[(0,.own 605 q.length)],[(605,.arr 1 (q.map Qs))]⟩) j rfl ?_ ?_
 ·rintro ⟨u,z⟩ o σ rfl h
  refine tg_ hC [.n 6] rfl ?_
  rcases QB h with⟨b,h⟩|⟨b,h⟩
  ·obtain⟨a,k,h⟩:=Qd h
   refine Qa hC [.T,.n 6,.o (.row (Qr a)),.n 10,.K [0,6,7,8,9,10] [605]] rfl ⟨⟨tt_,b⟩,(Qar k)⟩ ?_
   obtain⟨w,l,h⟩:=Qd h
   refine AK.loop (body:=(fun st=>QgF a st.1 st.2)) (fun st σ=>σ=⟨[(0,.own 605 st.2.length),(6,.I a),(7,.I st.1),(8,.sl 1 (f.map Qr)),(9,.I (f.length:Int)),(10,.I u)],[(605,.arr 1 (st.2.map Qs))]⟩) (fun q e σ=>e=.exit 2∧σ=⟨[(0,.own 605 q.length),(8,.sl 1 (f.map Qr)),(9,.I (f.length:Int)),(10,.I u)],[(605,.arr 1 (q.map Qs))]⟩) l rfl ?_ ?_
   ·rintro ⟨c,m⟩ o σ rfl h
    refine tg_ hC [.n 7] rfl ?_
    rcases QB h with⟨d,h⟩|⟨d,h⟩
    ·obtain⟨p,h⟩:=QaV h
     obtain⟨s,h⟩:=QaV h
     refine Qa hC [.T,.n 7,.o (.any (.i .u64 (IntKind.u64.wrap a)) none),.n 2,.o (.any (.i .u64 (Qeu .u64 (IntKind.u64.wrap a) (w64 (8*c)))) none),.o (.any (.i .u8 (IntKind.u8.wrap (Qeu .u64 (IntKind.u64.wrap a) (w64 (8*c))))) none),.v (.bd []) [] (.sl 1 (([(IntKind.u8.wrap (Qeu .u64 (IntKind.u64.wrap a) (w64 (8*c))))]:List Int).map Qs)),.app ((m++([(IntKind.u8.wrap (Qeu .u64 (IntKind.u64.wrap a) (w64 (8*c))))]:List Int)).map Qs) (m++([(IntKind.u8.wrap (Qeu .u64 (IntKind.u64.wrap a) (w64 (8*c))))]:List Int)).length,.n 9,.K [0,6,7,8,9,10] [605]] rfl ⟨⟨⟨⟨⟨⟨tt_,d⟩,(fun σ g x _=>Stp.convI rfl rfl (Qt hC.n rfl) (g _ _ rfl) QoA Qis)⟩,(fun σ g x _=>Stp.shr rfl rfl (Qt hC.n rfl) (g _ _ rfl) (g _ _ rfl) (Qal p))⟩,(fun σ g x _=>Stp.convI rfl rfl (Qt hC.n rfl) (g _ _ rfl) Qis QoB)⟩,rfl⟩,⟨Qj,QbA s Qj,QaZ,Qcb Qj⟩⟩ ?_
     cases h
     exact QaR rfl rfl
    refine Qa hC [.F,.n 2,.K [0,8,9,10] [605]] rfl ⟨tt_,d⟩ ?_
    cases h
    exact QaM rfl (an_ rfl rfl)
   replace h:QgG u w=some o:=h
   rintro e σ ⟨rfl,rfl⟩
   refine tg_ hC [.n 7,.K [0,8,9,10] [605]] rfl ?_
   cases h
   exact QaR rfl rfl
  refine Qa hC [.F,.n 2,.K [0] [605]] rfl ⟨tt_,b⟩ ?_
  cases h
  exact QaM rfl (an_ rfl rfl)
 replace h:QgI y=some r:=h
 rintro e σ ⟨rfl,rfl⟩
 refine tg_ hC [.n 9] rfl ?_
 cases h
 exact d1_ rfl rfl ⟨rfl,tt_⟩
def Qkn (a:(List Int))(b:Int):Option (List Int):=
 (QaH a ([b]:List Int)).bind fun c=>
 some c
theorem Qlz (a b){r}(h:Qkn a b=some r):Qh prog 95 [.own 605 a.length,.I b] [(605,.arr 1 (a.map Qs))] (Qp (.own 605 r.length) [(605,.arr 1 (r.map Qs))]):=by
 refine Qh.walk 9 func95 rfl rfl rfl fun C hC=>?_
 obtain⟨e,c,h⟩:=Qd h
 refine Qa hC [.n 9,.v (.bd []) [] (.sl 1 (([b]:List Int).map Qr)),.cm (.fn) [(605,605)] [(605,605)] [605] [.d,.d] [(605,.arr 1 (e.map Qs))] (.own 605 e.length),.n 4] rfl ⟨⟨tt_,rfl⟩,(Qai _ _ c)⟩ ?_
 cases h
 exact d1_ rfl rfl ⟨rfl,tt_⟩
def Qgp (d:(List Int))(a:Int)(e:(List Int)):Option ((Int×(List Int))⊕(List Int)):=
 bif (decide (a<(d.length:Int)))then
 (idx d a).bind fun b=>
 (Qkn e b).bind fun c=>
 some (.inl ((w64 (a+1)),c))
 else
 some (.inr e)
def Qgq (a:(List Int)):Option (List Int):=
 some a
def QdT (b:(List Int))(a:(List Int)):Option (List Int):=
 (QaH b ([(a.length:Int)]:List Int)).bind fun c=>
 (QK (fun st=>Qgp a st.1 st.2) (0,c)).bind (fun q=>Qgq q)
theorem Qd4 (j b){r}(h:QdT j b=some r):Qh prog 94 [.own 605 j.length,.sl 1 (b.map Qr),.clo (.func 95) [] []] [(605,.arr 1 (j.map Qs))] (Qp (.own 605 r.length) [(605,.arr 1 (r.map Qs))]):=by
 refine Qh.walk 26 func94 rfl rfl rfl fun C hC=>?_
 obtain⟨p,k,h⟩:=Qd h
 refine Qa hC [.n 9,.o (.ln b.length),.v (.bd []) [] (.sl 1 (([(b.length:Int)]:List Int).map Qr)),.cm (.fn) [(605,605)] [(605,605)] [605] [.d,.d] [(605,.arr 1 (p.map Qs))] (.own 605 p.length),.n 7,.o (.ln b.length),.n 4,.K [0,2,14,15,16] [605]] rfl ⟨⟨⟨⟨tt_,Qj⟩,rfl⟩,(Qai _ _ k)⟩,Qj⟩ ?_
 obtain⟨l,c,h⟩:=Qd h
 refine AK.loop (body:=(fun st=>Qgp b st.1 st.2)) (fun st σ=>σ=⟨[(0,.own 605 st.2.length),(2,.clo (.func 95) [] []),(14,.sl 1 (b.map Qr)),(15,.I (b.length:Int)),(16,.I st.1)],[(605,.arr 1 (st.2.map Qs))]⟩) (fun q e σ=>e=.exit 0∧σ=⟨[(0,.own 605 q.length)],[(605,.arr 1 (q.map Qs))]⟩) c rfl ?_ ?_
 ·rintro ⟨s,t⟩ o σ rfl h
  refine tg_ hC [.n 6] rfl ?_
  rcases QB h with⟨a,h⟩|⟨a,h⟩
  ·obtain⟨m,f,h⟩:=Qd h
   obtain⟨g,i,h⟩:=Qd h
   refine Qa hC [.T,.n 6,.o (.row (Qr m)),.n 8,.cm (.clo) [(605,605)] [(605,605)] [605] [.d,.d] [(605,.arr 1 (g.map Qs))] (.own 605 g.length),.n 8,.K [0,2,14,15,16] [605]] rfl ⟨⟨⟨tt_,a⟩,(Qar f)⟩,(Qlz _ _ i)⟩ ?_
   cases h
   exact QaR rfl rfl
  refine Qa hC [.F,.n 2,.K [0] [605]] rfl ⟨tt_,a⟩ ?_
  cases h
  exact QaM rfl (an_ rfl rfl)
 replace h:Qgq l=some r:=h
 rintro e σ ⟨rfl,rfl⟩
 refine tg_ hC [.n 9] rfl ?_
 cases h
 exact d1_ rfl rfl ⟨rfl,tt_⟩
def Qhn (b:(List Int))(a:Qac):Option (List Int):=
 (QaH b ([a.Task]:List Int)).bind fun c=>
 (QdT c a.Vars).bind fun d=>
 (QdT d a.Ins).bind fun e=>
 (QdT e a.Outs).bind fun f=>
 some f
theorem QhT (b c){r}(h:Qhn b c=some r):Qh prog 61 [.own 605 b.length,.agg (QU c)] [(605,.arr 1 (b.map Qs))] (Qp (.own 605 r.length) [(605,.arr 1 (r.map Qs))]):=by
 refine Qh.walk 19 func61 rfl rfl rfl fun C hC=>?_
 obtain⟨j,e,h⟩:=Qd h
 obtain⟨k,f,h⟩:=Qd h
 obtain⟨l,g,h⟩:=Qd h
 obtain⟨o,i,h⟩:=Qd h
 refine tg_ hC [.n 7,.K [0,3,4] [3,605]] rfl ?_
 refine AK.draw2 Qk hC mixed [.N,.N,.N,.a (.bd []) (some ([],.sl 1 (([c.Task]:List Int).map Qr))) false,.m (.cm (.fn) [(605,605)] [(605,605)] [605] [.d,.d] [(605,.arr 1 (j.map Qs))] (.own 605 j.length) []),.a .no none true,.a .no none true,.m (.cm (.fn) [(605,605)] [(605,605)] [605] [.d,.d,.d] [(605,.arr 1 (k.map Qs))] (.own 605 k.length) []),.a .no none true,.a .no none true,.m (.cm (.fn) [(605,605)] [(605,605)] [605] [.d,.d,.d] [(605,.arr 1 (l.map Qs))] (.own 605 l.length) []),.a .no none true,.a .no none true,.m (.cm (.fn) [(605,605)] [(605,605)] [605] [.d,.d,.d] [(605,.arr 1 (o.map Qs))] (.own 605 o.length) []),.m .s] [3,4] [3] [4] [605] rfl rfl rfl ⟨⟨⟨⟨⟨tt_,rfl⟩,⟨tt_,(Qai _ _ e)⟩⟩,⟨tt_,(Qd4 _ _ f)⟩⟩,⟨tt_,(Qd4 _ _ g)⟩⟩,⟨tt_,(Qd4 _ _ i)⟩⟩ rfl (by kernel_rfl) rfl rfl rfl ?_
 refine tg_ hC [.n 2] rfl ?_
 cases h
 exact d1_ rfl rfl ⟨rfl,tt_⟩
def Qgr (a:QbM):Option (List Int):=
 (Qih ([a.Do,a.Id]:List Int)).bind fun b=>
 (Qhn b a.Mode).bind fun c=>
 (QaH c ([a.Num]:List Int)).bind fun d=>
 some d
theorem Qiy (b){r}(h:Qgr b=some r):Qh prog 26 [.agg (QX b)] [] (Qp (.own 600 r.length) [(600,.arr 1 (r.map Qs))]):=by
 refine Qh.walk 16 func26 rfl rfl rfl fun C hC=>?_
 obtain⟨g,c,h⟩:=Qd h
 obtain⟨i,e,h⟩:=Qd h
 obtain⟨j,f,h⟩:=Qd h
 refine tg_ hC [.n 7,.K [1,2] [1]] rfl ?_
 refine AK.draw2 Qk hC mixed [.N,.N,.N,.N,.a (.bd []) (some ([],.sl 1 (([b.Do,b.Id]:List Int).map Qr))) false,.m (.cm (.fn) [] [(8,600)] [8] [.d,.d] [(600,.arr 1 (g.map Qs))] (.own 600 g.length) []),.a .no none true,.a .no (some ([],.agg (QU b.Mode))) true,.m (.cm (.fn) [(605,8)] [(8,605)] [8] [.d,.d] [(605,.arr 1 (i.map Qs))] (.own 605 i.length) []),.a .no none true,.a .no none true,.a (.bd []) (some ([],.sl 1 (([b.Num]:List Int).map Qr))) true,.m (.cm (.fn) [(605,8)] [(8,605)] [8] [.d,.d] [(605,.arr 1 (j.map Qs))] (.own 605 j.length) []),.m .s] [1,2] [1] [2] [8] rfl rfl rfl ⟨⟨⟨⟨⟨⟨tt_,rfl⟩,⟨tt_,(Qix _ c)⟩⟩,rfl⟩,⟨tt_,(QhT _ _ e)⟩⟩,rfl⟩,⟨tt_,(Qai _ _ f)⟩⟩ rfl (by kernel_rfl) rfl rfl rfl ?_
 refine tg_ hC [.n 2,.K [2] [8],.ren 8 600] rfl ?_
 cases h
 exact d1_ rfl rfl ⟨rfl,tt_⟩
def Qiz (a:Qg):Option Qg:=
 bif a.bad then
 some (Qg.mk a.b true)
 else
 some (Qg.mk a.b (decide ((a.b.length:Int)<8)))
def Qe4 (e:Qg)(c:Int)(a:Int):Option ((Int×Int)⊕Int):=
 bif (decide (a<(((e.b.drop 0).take (8-0)).length:Int)))then
 (idx ((e.b.drop 0).take (8-0)) a).bind fun d=>
 some (.inl ((orI .u64 (Qmt .u64 c 8) (IntKind.u64.wrap d)),(w64 (a+1))))
 else
 some (.inr c)
def Qe5 (a:Qg)(c:Int):Option (Int×Qg):=
 (chk (decide (0≤8)&&decide (8≤a.b.length)&&decide (a.b.length≤a.b.length))).bind fun _=>
 some ((w64 c),(Qg.mk ((a.b.drop 8).take (a.b.length-8)) a.bad))
def Qc5 (a:Qg):Option (Int×Qg):=
 bif a.bad then
 some (0,a)
 else
 (chk (decide (0≤8)&&decide (0≤8)&&decide (8≤a.b.length))).bind fun _=>
 (QK (fun st=>Qe4 a st.1 st.2) (0,0)).bind (fun q=>Qe5 a q)
def Qz (a:Qg):Option (Int×Qg):=
 (Qiz a).bind (fun b=>Qc5 b)
theorem Qw (m){r}(h:Qz m=some r):Qh prog 98 [.loc 607 0 0] [(607,.var (Qc m))] (Qp (.I r.1) [(607,.var (Qc r.2))]):=by
 refine Qh.walk 51 func98 rfl rfl rfl fun C hC=>?_
 refine tg_ hC [.n 7] rfl ?_
 obtain⟨a,w,h⟩:=Qd h
 replace h:Qc5 a=some r:=h
 refine AK.meetX (fun σ=>σ=⟨[(0,.loc 607 0 0)],[(607,.var (Qc a))]⟩) ?_ ?_
 ·replace h:=w
  refine tg_ hC [.n 7] rfl ?_
  refine bg_ h (fun j h=>Qa hC [.S 11 (.b true),.n 10,.O 607 (.var (Qc (Qg.mk m.b true))),.n 1,.K [0] [607]] rfl ⟨(tc_ j),rfl⟩ ?_) fun j h=>Qa hC [.S 11 (.b false),.n 4,.o (.ln m.b.length),.n 5,.O 607 (.var (Qc (Qg.mk m.b (decide ((m.b.length:Int)<8))))),.n 1,.K [0] [607]] rfl ⟨⟨(tc_ j),Qj⟩,rfl⟩ ?_
  ·cases h
   exact AK.met rfl
  cases h
  exact AK.met rfl
 rintro σ rfl
 replace h:Qc5 a=some r:=h
 refine tg_ hC [.n 9] rfl ?_
 rcases QB h with⟨k,h⟩|⟨k,h⟩
 ·refine Qa hC [.T,.n 7] rfl ⟨tt_,k⟩ ?_
  cases h
  exact d1_ rfl rfl ⟨rfl,tt_⟩
 obtain⟨d,h⟩:=QaV h
 refine Qa hC [.F,.n 14,.o (.any (.sl 1 (((a.b.drop 0).take (8-0)).map Qs)) none),.o (.ln ((a.b.drop 0).take (8-0)).length),.n 4,.K [0,3,29,30,31] [607]] rfl ⟨⟨⟨tt_,k⟩,(fun σ c p _=>Stp.sliceD rfl rfl (Qt hC.n rfl) (c _ _ rfl) (Qk.es rfl) Bnd.no (Bnd.val (c _ _ rfl) (Qal (Qgl d)) rfl) (Qal (Qgm d)) (QaQ (Qal (Qmk d)) (QgP Qj.symm)) QhP)⟩,Qj⟩ ?_
 obtain⟨s,t,h⟩:=Qd h
 refine AK.loop (body:=(fun st=>Qe4 a st.1 st.2)) (fun st σ=>σ=⟨[(0,.loc 607 0 0),(3,.i .u64 st.1),(29,.sl 1 (((a.b.drop 0).take (8-0)).map Qs)),(30,.I (((a.b.drop 0).take (8-0)).length:Int)),(31,.I st.2)],[(607,.var (Qc a))]⟩) (fun q e σ=>e=.exit 0∧σ=⟨[(0,.loc 607 0 0),(3,.i .u64 q)],[(607,.var (Qc a))]⟩) t rfl ?_ ?_
 ·rintro ⟨u,x⟩ o σ rfl h
  refine tg_ hC [.n 6] rfl ?_
  rcases QB h with⟨f,h⟩|⟨f,h⟩
  ·obtain⟨l,v,h⟩:=Qd h
   refine Qa hC [.T,.n 6,.o (.row (Qs l)),.n 6,.o (.any (.i .u64 (Qmt .u64 u 8)) none),.n 1,.o (.any (.i .u64 (IntKind.u64.wrap l)) none),.o (.any (.i .u64 (orI .u64 (Qmt .u64 u 8) (IntKind.u64.wrap l))) none),.n 8,.K [0,3,29,30,31] [607]] rfl ⟨⟨⟨⟨⟨tt_,f⟩,(Qar v)⟩,(fun σ c p _=>Stp.shl rfl rfl (Qt hC.n rfl) (c _ _ rfl) (c _ _ rfl) (by decide))⟩,(fun σ c p _=>Stp.convI rfl rfl (Qt hC.n rfl) (c _ _ rfl) QoB Qis)⟩,(fun σ c p _=>Stp.orB rfl rfl (Qt hC.n rfl) (c _ _ rfl) (c _ _ rfl))⟩ ?_
   cases h
   exact QaR rfl rfl
  refine Qa hC [.F,.n 2,.K [0,3] [607]] rfl ⟨tt_,f⟩ ?_
  cases h
  exact QaM rfl (an_ rfl rfl)
 replace h:Qe5 a s=some r:=h
 rintro e σ ⟨rfl,rfl⟩
 obtain⟨g,h⟩:=QaV h
 refine Qa hC [.n 9,.o (.any (.sl 1 (((a.b.drop 8).take (a.b.length-8)).map Qs)) none),.n 3,.O 607 (.var (Qc (Qg.mk ((a.b.drop 8).take (a.b.length-8)) a.bad))),.n 5,.o (.any (.I (w64 s)) none),.n 4] rfl ⟨⟨⟨tt_,(fun σ c p _=>Stp.sliceD rfl rfl (Qt hC.n rfl) (c _ _ rfl) (Qk.es rfl) (Bnd.val (c _ _ rfl) (Qal (Qgl g)) rfl) (Bnd.none_ Qj) (Qal (Qgm g)) (QgP Qj.symm) QhP)⟩,rfl⟩,(fun σ c p _=>Stp.convI rfl rfl (Qt hC.n rfl) (c _ _ rfl) Qis QoA)⟩ ?_
 cases h
 exact d1_ rfl rfl ⟨rfl,tt_⟩
def QfK (c:Qg)(f:Int)(g:Int)(d:Int)(e:Int):Option (Qg×QbM):=
 (Qz c).bind fun b=>
 (Qz b.2).bind fun a=>
 some (a.2,(QbM.mk b.1 a.1 (Qac.mk d ([]:List Int) ([]:List Int) ([]:List Int)) e))
theorem Qii (m p j c e){r}(h:QfK m p j c e=some r):Qh prog 67 [.loc 607 0 0,.own 608 2] [(607,.var (Qc m)),(608,.var [.loc 609 0 0,.loc 609 0 1]),(609,.var [.I p,.I j,.I c,.lit (.slice none 0 0),.lit (.slice none 0 0),.lit (.slice none 0 0),.I e])] (Qp (.tup []) [(607,.var (Qc r.1)),(608,.var [.loc 609 0 0,.loc 609 0 1]),(609,.var (QX r.2))]):=by
 refine Qh.walk 17 func67 rfl rfl rfl fun C hC=>?_
 refine tg_ hC [.n 8] rfl ?_
 refine AK.loopN 3 (AK.rnd ?_)
 obtain⟨f,k,h⟩:=Qd h
 refine Qa hC [.n 2,.v .no [] (.b true),.n 10,.o (.any (.loc 608 0 0) none),.n 7,.cm (.fn) [(607,607)] [(607,607)] [] [.d] [(607,.var (Qc f.2))] (.I f.1),.n 2,.O 609 (.var [.I f.1,.I j,.I c,.lit (.slice none 0 0),.lit (.slice none 0 0),.lit (.slice none 0 0),.I e]),.n 4,.v .no [] (.I 1),.n 2] rfl ⟨⟨⟨⟨⟨tt_,rfl⟩,(fun σ g l _=>Stp.idxV rfl rfl (Qt hC.n rfl) (g _ _ rfl) (g _ _ rfl) (Qk.es rfl) (l _ _ rfl) (by decide))⟩,(Qw _ k)⟩,rfl⟩,rfl⟩ ?_
 refine AK.met (AK.rnd ?_)
 obtain⟨a,i,h⟩:=Qd h
 refine Qa hC [.n 2,.v .no [] (.b true),.n 10,.o (.any (.loc 608 0 1) none),.n 7,.cm (.fn) [(607,607)] [(607,607)] [] [.d] [(607,.var (Qc a.2))] (.I a.1),.n 2,.O 609 (.var [.I f.1,.I a.1,.I c,.lit (.slice none 0 0),.lit (.slice none 0 0),.lit (.slice none 0 0),.I e]),.n 4,.v .no [] (.I 2),.n 2] rfl ⟨⟨⟨⟨⟨tt_,rfl⟩,(fun σ g l _=>Stp.idxV rfl rfl (Qt hC.n rfl) (g _ _ rfl) (g _ _ rfl) (Qk.es rfl) (l _ _ rfl) (by decide))⟩,(Qw _ i)⟩,rfl⟩,rfl⟩ ?_
 refine AK.met (AK.rnd ?_)
 refine Qa hC [.n 2,.v .no [] (.b false),.n 8,.denilO 609 [none,none,none,some 1,some 1,some 1,none],.O 609 (.var (QX (QbM.mk f.1 a.1 (Qac.mk c ([]:List Int) ([]:List Int) ([]:List Int)) e))),.K [] [607,608,609]] rfl ⟨⟨tt_,rfl⟩,rfl⟩ ?_
 cases h
 refine AK.done ?_
 exact ex_ [] (an_ tt_ (Qas ⟨rfl,rfl,rfl,tt_⟩))
def Qex (b:Qg)(c:Int):Option (Qg×Qac):=
 (Qz b).bind fun a=>
 some (a.2,(Qac.mk a.1 ([]:List Int) ([]:List Int) ([]:List Int)))
theorem QgY (e f){r}(h:Qex e f=some r):Qh prog 67 [.loc 607 0 0,.own 608 1] [(607,.var (Qc e)),(608,.var [.loc 609 0 0]),(609,.var [.I f,.lit (.slice none 0 0),.lit (.slice none 0 0),.lit (.slice none 0 0)])] (Qp (.tup []) [(607,.var (Qc r.1)),(608,.var [.loc 609 0 0]),(609,.var (QU r.2))]):=by
 refine Qh.walk 17 func67 rfl rfl rfl fun C hC=>?_
 refine tg_ hC [.n 8] rfl ?_
 refine AK.loopN 2 (AK.rnd ?_)
 obtain⟨a,c,h⟩:=Qd h
 refine Qa hC [.n 2,.v .no [] (.b true),.n 10,.o (.any (.loc 608 0 0) none),.n 7,.cm (.fn) [(607,607)] [(607,607)] [] [.d] [(607,.var (Qc a.2))] (.I a.1),.n 2,.O 609 (.var [.I a.1,.lit (.slice none 0 0),.lit (.slice none 0 0),.lit (.slice none 0 0)]),.n 4,.v .no [] (.I 1),.n 2] rfl ⟨⟨⟨⟨⟨tt_,rfl⟩,(fun σ g i _=>Stp.idxV rfl rfl (Qt hC.n rfl) (g _ _ rfl) (g _ _ rfl) (Qk.es rfl) (i _ _ rfl) (by decide))⟩,(Qw _ c)⟩,rfl⟩,rfl⟩ ?_
 refine AK.met (AK.rnd ?_)
 refine Qa hC [.n 2,.v .no [] (.b false),.n 8,.denilO 609 [none,some 1,some 1,some 1],.O 609 (.var (QU (Qac.mk a.1 ([]:List Int) ([]:List Int) ([]:List Int)))),.K [] [607,608,609]] rfl ⟨⟨tt_,rfl⟩,rfl⟩ ?_
 cases h
 refine AK.done ?_
 exact ex_ [] (an_ tt_ (Qas ⟨rfl,rfl,rfl,tt_⟩))
def Qjo (a:(Int×Qg)):Option Qg:=
 bif a.2.bad then
 some (Qg.mk a.2.b true)
 else
 some (Qg.mk a.2.b (decide (a.1<0)))
def QfL (e:(Int×Qg))(d:Int)(a:Qg)(b:(List Int)):Option ((Int×Qg×(List Int))⊕((List Int)×Qg)):=
 bif ((decide (d<e.1))&&(!a.bad))then
 (Qz a).bind fun c=>
 (chk (decide (b.length+([c.1]:List Int).length≤4294967296))).bind fun _=>
 some (.inl ((w64 (d+1)),c.2,(b++([c.1]:List Int))))
 else
 some (.inr (b,a))
def QfM (a:(List Int))(b:Qg):Option ((List Int)×Qg):=
 some (a,b)
def QdH (a:(Int×Qg))(b:Qg):Option ((List Int)×Qg):=
 (QK (fun st=>QfL a st.1 st.2.1 st.2.2) (0,b,([]:List Int))).bind (fun q=>QfM q.1 q.2)
def Qdp (b:Qg):Option ((List Int)×Qg):=
 (Qz b).bind fun a=>
 (Qjo a).bind (fun c=>QdH a c)
theorem QdI (A){r}(h:Qdp A=some r):Qh prog 102 [.loc 607 0 0,.clo (.func 98) [] []] [(607,.var (Qc A))] (Qp (.own 600 r.1.length) [(600,.arr 1 (r.1.map Qr)),(607,.var (Qc r.2))]):=by
 refine Qh.walk 40 func102 rfl rfl rfl fun C hC=>?_
 obtain⟨c,t,h⟩:=Qd h
 refine Qa hC [.n 8,.cm (.fn) [(607,607)] [(607,607)] [] [.d] [(607,.var (Qc c.2))] (.I c.1),.n 4] rfl ⟨tt_,(Qw _ t)⟩ ?_
 obtain⟨u,w,h⟩:=Qd h
 replace h:QdH c u=some r:=h
 refine AK.meetX (fun σ=>σ=⟨[(0,.loc 607 0 0),(1,.clo (.func 98) [] []),(5,.I c.1)],[(607,.var (Qc u))]⟩) ?_ ?_
 ·replace h:=w
  refine tg_ hC [.n 7] rfl ?_
  refine bg_ h (fun k h=>Qa hC [.S 15 (.b true),.n 6,.O 607 (.var (Qc (Qg.mk c.2.b true))),.n 1,.K [0,1,5] [607]] rfl ⟨(tc_ k),rfl⟩ ?_) fun k h=>Qa hC [.S 15 (.b false),.n 6,.O 607 (.var (Qc (Qg.mk c.2.b (decide (c.1<0))))),.n 1,.K [0,1,5] [607]] rfl ⟨(tc_ k),rfl⟩ ?_
  ·cases h
   exact AK.met rfl
  cases h
  exact AK.met rfl
 rintro σ rfl
 replace h:QdH c u=some r:=h
 refine Qa hC [.n 13,.adopt 6 33 1,.O 33 (.arr 1 (([]:List Int).map Qr)),.S 6 (.own 33 ([]:List Int).length),.K [0,1,5,6,7] [33,607]] rfl ⟨⟨tt_,rfl⟩,(congrArg (fun n=>V.own 33 n) (by simp))⟩ ?_
 obtain⟨x,l,h⟩:=Qd h
 refine AK.loop (body:=(fun st=>QfL c st.1 st.2.1 st.2.2)) (fun st σ=>σ=⟨[(0,.loc 607 0 0),(1,.clo (.func 98) [] []),(5,.I c.1),(6,.own 33 st.2.2.length),(7,.I st.1)],[(33,.arr 1 (st.2.2.map Qr)),(607,.var (Qc st.2.1))]⟩) (fun q e σ=>e=.exit 0∧σ=⟨[(6,.own 33 q.1.length)],[(33,.arr 1 (q.1.map Qr)),(607,.var (Qc q.2))]⟩) l rfl ?_ ?_
 ·rintro ⟨m,i,j⟩ o σ rfl h
  refine tg_ hC [.n 2] rfl ?_
  refine AK.meetX (fun σ=>σ=⟨[(0,.loc 607 0 0),(1,.clo (.func 98) [] []),(5,.I c.1),(6,.own 33 j.length),(7,.I m),(30,.b ((decide (m<c.1))&&(!i.bad)))],[(33,.arr 1 (j.map Qr)),(607,.var (Qc i))]⟩) ?_ ?_
  ·refine tg_ hC [.n 5] rfl ?_
   rcases Qa6 (decide (m<c.1))with a | a
   ·refine Qa hC [.S 24 (.b true),.n 7,.S 30 (.b ((decide (m<c.1))&&(!i.bad))),.K [0,1,5,6,7,30] [33,607]] rfl ⟨(tc_ a),(congrArg V.b (QjD a rfl))⟩ ?_
    exact AK.met rfl
   refine Qa hC [.S 24 (.b false),.n 7,.S 30 (.b ((decide (m<c.1))&&(!i.bad))),.K [0,1,5,6,7,30] [33,607]] rfl ⟨(tc_ a),(congrArg V.b (QjE a rfl))⟩ ?_
   exact AK.met rfl
  rintro σ rfl
  refine tg_ hC [.n 1] rfl ?_
  rcases QB h with⟨f,h⟩|⟨f,h⟩
  ·obtain⟨g,p,h⟩:=Qd h
   obtain⟨s,h⟩:=QaV h
   refine Qa hC [.T,.n 8,.cm (.clo) [(607,607)] [(607,607)] [] [.d] [(607,.var (Qc g.2))] (.I g.1),.v (.bd []) [] (.sl 1 (([g.1]:List Int).map Qr)),.app ((j++([g.1]:List Int)).map Qr) (j++([g.1]:List Int)).length,.n 9,.K [0,1,5,6,7] [33,607]] rfl ⟨⟨⟨⟨tt_,f⟩,(Qw _ p)⟩,rfl⟩,⟨Qj,QbA s Qj,QaZ,Qcb Qj⟩⟩ ?_
   cases h
   exact QaR rfl rfl
  refine Qa hC [.F,.n 2,.K [6] [33,607]] rfl ⟨tt_,f⟩ ?_
  cases h
  exact QaM rfl (an_ rfl rfl)
 obtain⟨y,z⟩:=x
 replace h:QfM y z=some r:=h
 rintro e σ ⟨rfl,rfl⟩
 refine tg_ hC [.n 9,.K [4] [33,607],.ren 33 600] rfl ?_
 cases h
 exact d1_ rfl rfl ⟨rfl,rfl,tt_⟩
def QeV (e:Qg):Option (Qac×Qg):=
 (Qex e 0).bind fun a=>
 (Qdp a.1).bind fun b=>
 (Qdp b.2).bind fun c=>
 (Qdp c.2).bind fun d=>
 some ((Qac.mk a.2.Task b.1 c.1 d.1),d.2)
theorem QfN (p){r}(h:QeV p=some r):Qh prog 76 [.loc 607 0 0] [(607,.var (Qc p))] (Qp (.agg (QU r.1)) [(607,.var (Qc r.2))]):=by
 refine Qh.walk 25 func76 rfl rfl rfl fun C hC=>?_
 obtain⟨c,j,h⟩:=Qd h
 refine Qa hC [.n 14,.o (.any (.own 8 1) (some (.var [.loc 3 0 0]))),.cm (.fn) [(607,607),(608,8),(609,3)] [(607,607),(8,608),(3,609)] [] [.d,.d] [(607,.var (Qc c.1)),(608,.var [.loc 609 0 0]),(609,.var (QU c.2))] (.tup []),.n 8,.o (.any (.own 13 3) (some (.var [.loc 3 0 1,.loc 3 0 2,.loc 3 0 3]))),.n 5] rfl ⟨⟨⟨tt_,(fun σ a f hf=>Stp.buildAny rfl rfl (Qt hC.n rfl) (Qk.es rfl) Qjb rfl (by decide) (by decide) (Qcs a rfl) rfl rfl (hf rfl))⟩,(QgY _ _ j)⟩,(fun σ a f hf=>Stp.buildAny rfl rfl (Qt hC.n rfl) (Qk.es rfl) QnX rfl (by decide) (by decide) (Qcs a rfl) rfl rfl (hf rfl))⟩ ?_
 refine AK.loopN 4 (AK.rnd ?_)
 obtain⟨e,k,h⟩:=Qd h
 refine Qa hC [.n 2,.v .no [] (.b true),.n 10,.o (.any (.loc 13 0 0) none),.n 7,.cm (.fn) [(607,607)] [(21,600),(607,607)] [] [.d,.d] [(600,.arr 1 (e.1.map Qr)),(607,.var (Qc e.2))] (.own 600 e.1.length),.n 2,.O 3 (.var [.I c.2.Task,.own 21 e.1.length,.sl 1 (c.2.Ins.map Qr),.sl 1 (c.2.Outs.map Qr)]),.n 4,.v .no [] (.I 1),.n 2] rfl ⟨⟨⟨⟨⟨tt_,rfl⟩,(fun σ a f _=>Stp.idxV rfl rfl (Qt hC.n rfl) (a _ _ rfl) (a _ _ rfl) (Qk.es rfl) (f _ _ rfl) (by decide))⟩,(QdI _ k)⟩,rfl⟩,rfl⟩ ?_
 refine AK.met (AK.rnd ?_)
 obtain⟨g,l,h⟩:=Qd h
 refine Qa hC [.n 2,.v .no [] (.b true),.n 10,.o (.any (.loc 13 0 1) none),.n 7,.cm (.fn) [(607,607)] [(602,600),(607,607)] [] [.d,.d] [(600,.arr 1 (g.1.map Qr)),(607,.var (Qc g.2))] (.own 600 g.1.length),.n 2,.O 3 (.var [.I c.2.Task,.own 21 e.1.length,.own 602 g.1.length,.sl 1 (c.2.Outs.map Qr)]),.n 4,.v .no [] (.I 2),.n 2] rfl ⟨⟨⟨⟨⟨tt_,rfl⟩,(fun σ a f _=>Stp.idxV rfl rfl (Qt hC.n rfl) (a _ _ rfl) (a _ _ rfl) (Qk.es rfl) (f _ _ rfl) (by decide))⟩,(QdI _ l)⟩,rfl⟩,rfl⟩ ?_
 refine AK.met (AK.rnd ?_)
 obtain⟨i,m,h⟩:=Qd h
 refine Qa hC [.n 2,.v .no [] (.b true),.n 10,.o (.any (.loc 13 0 2) none),.n 7,.cm (.fn) [(607,607)] [(603,600),(607,607)] [] [.d,.d] [(600,.arr 1 (i.1.map Qr)),(607,.var (Qc i.2))] (.own 600 i.1.length),.n 2,.O 3 (.var [.I c.2.Task,.own 21 e.1.length,.own 602 g.1.length,.own 603 i.1.length]),.n 4,.v .no [] (.I 3),.n 2] rfl ⟨⟨⟨⟨⟨tt_,rfl⟩,(fun σ a f _=>Stp.idxV rfl rfl (Qt hC.n rfl) (a _ _ rfl) (a _ _ rfl) (Qk.es rfl) (f _ _ rfl) (by decide))⟩,(QdI _ m)⟩,rfl⟩,rfl⟩ ?_
 refine AK.met (AK.rnd ?_)
 refine Qa hC [.n 2,.v .no [] (.b false),.n 13,.O 2 (.var [.I c.2.Task,.own 21 e.1.length,.own 602 g.1.length,.own 603 i.1.length]),.n 3,.frz 21 (e.1.map Qr) [] [2],.frz 602 (g.1.map Qr) [] [2],.frz 603 (i.1.map Qr) [] [2],.K [2] [2,607]] rfl ⟨⟨⟨⟨⟨tt_,rfl⟩,rfl⟩,⟨tt_,⟨(QbT Qj),⟨tt_,⟨tt_,tt_⟩⟩⟩⟩⟩,⟨tt_,⟨(QbT Qj),⟨tt_,tt_⟩⟩⟩⟩,⟨tt_,⟨(QbT Qj),tt_⟩⟩⟩ ?_
 cases h
 exact AK.done (ex_ [_] (an_ (an_ (ex_ _ (ex_ _ (an_ rfl (an_ rfl (Or.inl (an_ (Qk.ag rfl) (an_ (Qk.sz rfl) rfl))))))) tt_) (Qas ⟨rfl,tt_⟩)))
def Qey (c:Qg)(a:QbM):Option (Qg×QbM):=
 (Qz c).bind fun b=>
 some (b.2,(QbM.mk a.Do a.Id a.Mode b.1))
theorem QgZ (f a){r}(h:Qey f a=some r):Qh prog 67 [.loc 607 0 0,.own 608 1] [(607,.var (Qc f)),(608,.var [.loc 609 0 6]),(609,.var (QX a))] (Qp (.tup []) [(607,.var (Qc r.1)),(608,.var [.loc 609 0 6]),(609,.var (QX r.2))]):=by
 refine Qh.walk 17 func67 rfl rfl rfl fun C hC=>?_
 refine tg_ hC [.n 8] rfl ?_
 refine AK.loopN 2 (AK.rnd ?_)
 obtain⟨c,e,h⟩:=Qd h
 refine Qa hC [.n 2,.v .no [] (.b true),.n 10,.o (.any (.loc 608 0 0) none),.n 7,.cm (.fn) [(607,607)] [(607,607)] [] [.d] [(607,.var (Qc c.2))] (.I c.1),.n 2,.O 609 (.var (QX (QbM.mk a.Do a.Id a.Mode c.1))),.n 4,.v .no [] (.I 1),.n 2] rfl ⟨⟨⟨⟨⟨tt_,rfl⟩,(fun σ g i _=>Stp.idxV rfl rfl (Qt hC.n rfl) (g _ _ rfl) (g _ _ rfl) (Qk.es rfl) (i _ _ rfl) (by decide))⟩,(Qw _ e)⟩,rfl⟩,rfl⟩ ?_
 refine AK.met (AK.rnd ?_)
 refine Qa hC [.n 2,.v .no [] (.b false),.n 8,.K [] [607,608,609]] rfl ⟨tt_,rfl⟩ ?_
 cases h
 refine AK.done ?_
 exact ex_ [] (an_ tt_ (Qas ⟨rfl,rfl,rfl,tt_⟩))
def Qez (a:Qg)(c:QbM):Option (Int×QbM):=
 bif (a.bad||(decide (0<(a.b.length:Int))))then
 some (4,(QbM.mk 0 0 (Qac.mk 0 ([]:(List Int)) ([]:(List Int)) ([]:(List Int))) 0))
 else
 some (0,c)
theorem Qg0 (a e){r}(h:Qez a e=some r):Qh prog 77 [.loc 607 0 0,.agg (QX e)] [(607,.var (Qc a))] (Qp (.tup [.agg (QX r.2),.I r.1]) [(607,.var (Qc a))]):=by
 refine Qh.walk 21 func77 rfl rfl rfl fun C hC=>?_
 refine tg_ hC [.n 9] rfl ?_
 refine AK.meetX (fun σ=>σ=⟨[(3,.loc 3 0 0),(4,.loc 4 0 0),(18,.b (a.bad||(decide (0<(a.b.length:Int)))))],[(3,.var (QX e)),(4,.var [.I 0,.I 0,.I 0,.lit (.slice none 0 0),.lit (.slice none 0 0),.lit (.slice none 0 0),.I 0]),(607,.var (Qc a))]⟩) ?_ ?_
 ·refine tg_ hC [.n 6] rfl ?_
  rcases Qa6 a.bad with c | c
  ·refine Qa hC [.S 11 (.b true),.n 8,.S 18 (.b (a.bad||(decide (0<(a.b.length:Int))))),.K [3,4,18] [3,4,607]] rfl ⟨(tc_ c),(congrArg V.b (orT c rfl))⟩ ?_
   exact AK.met rfl
  refine Qa hC [.S 11 (.b false),.n 4,.o (.ln a.b.length),.n 3,.S 18 (.b (a.bad||(decide (0<(a.b.length:Int))))),.K [3,4,18] [3,4,607]] rfl ⟨⟨(tc_ c),Qj⟩,(congrArg V.b (orF c rfl))⟩ ?_
  exact AK.met rfl
 rintro σ rfl
 refine tg_ hC [.n 1] rfl ?_
 refine bg_ h (fun d h=>Qa hC [.T,.n 7,.v .no [none,none,none,some 1,some 1,some 1,none] (.agg (QX (QbM.mk 0 0 (Qac.mk 0 ([]:(List Int)) ([]:(List Int)) ([]:(List Int))) 0))),.n 1,.O 4 (.var (QX (QbM.mk 0 0 (Qac.mk 0 ([]:(List Int)) ([]:(List Int)) ([]:(List Int))) 0))),.n 5,.K [4,5] [4,607]] rfl ⟨⟨⟨tt_,d⟩,rfl⟩,rfl⟩ ?_) fun d h=>Qa hC [.F,.n 4,.v .no [] (.agg (QX e)),.n 1,.O 4 (.var (QX e)),.n 4,.K [4,5] [4,607]] rfl ⟨⟨⟨tt_,d⟩,rfl⟩,rfl⟩ ?_
 ·cases h
  exact AK.done (ex_ [_,_] (an_ (an_ (ex_ _ (ex_ _ (an_ rfl (an_ rfl (Or.inl (an_ (Qk.ag rfl) (an_ (Qk.sz rfl) rfl))))))) (an_ rfl tt_)) (Qas ⟨rfl,tt_⟩)))
 cases h
 exact AK.done (ex_ [_,_] (an_ (an_ (ex_ _ (ex_ _ (an_ rfl (an_ rfl (Or.inl (an_ (Qk.ag rfl) (an_ (Qk.sz rfl) rfl))))))) (an_ rfl tt_)) (Qas ⟨rfl,tt_⟩)))
def Qd5 (e:(List Int)):Option (Int×QbM):=
 (QfK (Qg.mk e false) 0 0 0 0).bind fun a=>
 (QeV a.1).bind fun b=>
 (Qey b.2 (QbM.mk a.2.Do a.2.Id b.1 a.2.Num)).bind fun c=>
 (Qez c.1 c.2).bind fun d=>
 some (d.1,d.2)
theorem Qe6 (c){r}(h:Qd5 c=some r):Qh prog 32 [.sl 1 (c.map Qs)] [] (Qp (.tup [.agg (QX r.2),.I r.1]) []):=by
 refine Qh.walk 26 func32 rfl rfl rfl fun C hC=>?_
 obtain⟨a,e,h⟩:=Qd h
 obtain⟨f,g,h⟩:=Qd h
 obtain⟨b,i,h⟩:=Qd h
 obtain⟨j,k,h⟩:=Qd h
 refine Qa hC [.n 9,.v .no [] (.agg (Qc (Qg.mk c false))),.n 14,.o (.any (.own 12 2) (some (.var [.loc 5 0 0,.loc 5 0 1]))),.cm (.fn) [(607,8),(608,12),(609,5)] [(8,607),(12,608),(5,609)] [] [.d,.d] [(607,.var (Qc a.1)),(608,.var [.loc 609 0 0,.loc 609 0 1]),(609,.var (QX a.2))] (.tup []),.n 5,.cm (.fn) [(607,8)] [(8,607)] [] [.d] [(607,.var (Qc f.2))] (.agg (QU f.1)),.n 2,.O 5 (.var (QX (QbM.mk a.2.Do a.2.Id f.1 a.2.Num))),.n 6,.o (.any (.own 19 1) (some (.var [.loc 5 0 6]))),.cm (.fn) [(607,8),(608,19),(609,5)] [(8,607),(19,608),(5,609)] [] [.d,.d] [(607,.var (Qc b.1)),(608,.var [.loc 609 0 6]),(609,.var (QX b.2))] (.tup []),.n 5,.v .no [] (.agg (QX b.2)),.cm (.fn) [(607,8)] [(8,607)] [] [.d,.d] [(607,.var (Qc b.1))] (.tup [.agg (QX j.2),.I j.1]),.n 3,.O 2 (.var (QX j.2)),.n 4,.K [2,3] [2]] rfl ⟨⟨⟨⟨⟨⟨⟨⟨⟨⟨tt_,rfl⟩,(fun σ l m hf=>Stp.buildAny rfl rfl (Qt hC.n rfl) (Qk.es rfl) Qjb rfl (by decide) (by decide) (Qcs l rfl) rfl rfl (hf rfl))⟩,(Qii _ _ _ _ _ e)⟩,(QfN _ g)⟩,rfl⟩,(fun σ l m hf=>Stp.buildAny rfl rfl (Qt hC.n rfl) (Qk.es rfl) Qjb rfl (by decide) (by decide) (Qcs l rfl) rfl rfl (hf rfl))⟩,(QgZ _ _ i)⟩,rfl⟩,(Qg0 _ _ k)⟩,rfl⟩ ?_
 cases h
 exact AK.done (ex_ [_,_] (an_ (an_ (ex_ _ (ex_ _ (an_ rfl (an_ rfl (Or.inl (an_ (Qk.ag rfl) (an_ (Qk.sz rfl) rfl))))))) (an_ rfl tt_)) (Qas tt_)))
def Qjn (b:(List Int))(a:(Int×Int)):Option (List Int):=
 (QaH b ([a.1,a.2]:List Int)).bind fun c=>
 some c
theorem Qky (c a){r}(h:Qjn c a=some r):Qh prog 92 [.own 605 c.length,.agg (Qv a)] [(605,.arr 1 (c.map Qs))] (Qp (.own 605 r.length) [(605,.arr 1 (r.map Qs))]):=by
 refine Qh.walk 8 func92 rfl rfl rfl fun C hC=>?_
 obtain⟨f,e,h⟩:=Qd h
 refine Qa hC [.n 9,.x (fun σ=>(σ.kill 3).put 6 (.sl 1 (([a.1,a.2]:List Int).map Qr))),.cm (.fn) [(605,605)] [(605,605)] [605] [.d,.d] [(605,.arr 1 (f.map Qs))] (.own 605 f.length),.n 4] rfl ⟨⟨tt_,(Stp.sliceVar (b:=3) rfl rfl (Qt hC.n rfl) rfl rfl rfl (Qk.ar rfl) rfl rfl rfl rfl rfl)⟩,(Qai _ _ e)⟩ ?_
 cases h
 exact d1_ rfl rfl ⟨rfl,tt_⟩
def Qfv (d:QBg)(a:Int)(e:(List Int)):Option ((Int×(List Int))⊕(List Int)):=
 bif (decide (a<(d.length:Int)))then
 (idx d a).bind fun b=>
 (Qjn e b).bind fun c=>
 some (.inl ((w64 (a+1)),c))
 else
 some (.inr e)
def Qfw (a:(List Int)):Option (List Int):=
 some a
def QgJ (b:(List Int))(a:QBg):Option (List Int):=
 (QaH b ([(a.length:Int)]:List Int)).bind fun c=>
 (QK (fun st=>Qfv a st.1 st.2) (0,c)).bind (fun q=>Qfw q)
theorem Qjc (k c){r}(h:QgJ k c=some r):Qh prog 91 [.own 605 k.length,.sl 2 (c.map Qv),.clo (.func 92) [] []] [(605,.arr 1 (k.map Qs))] (Qp (.own 605 r.length) [(605,.arr 1 (r.map Qs))]):=by
 refine Qh.walk 26 func91 rfl rfl rfl fun C hC=>?_
 obtain⟨p,l,h⟩:=Qd h
 refine Qa hC [.n 9,.o (.ln c.length),.v (.bd []) [] (.sl 1 (([(c.length:Int)]:List Int).map Qr)),.cm (.fn) [(605,605)] [(605,605)] [605] [.d,.d] [(605,.arr 1 (p.map Qs))] (.own 605 p.length),.n 7,.o (.ln c.length),.n 4,.K [0,2,14,15,16] [605]] rfl ⟨⟨⟨⟨tt_,Qj⟩,rfl⟩,(Qai _ _ l)⟩,Qj⟩ ?_
 obtain⟨m,f,h⟩:=Qd h
 refine AK.loop (body:=(fun st=>Qfv c st.1 st.2)) (fun st σ=>σ=⟨[(0,.own 605 st.2.length),(2,.clo (.func 92) [] []),(14,.sl 2 (c.map Qv)),(15,.I (c.length:Int)),(16,.I st.1)],[(605,.arr 1 (st.2.map Qs))]⟩) (fun q e σ=>e=.exit 0∧σ=⟨[(0,.own 605 q.length)],[(605,.arr 1 (q.map Qs))]⟩) f rfl ?_ ?_
 ·rintro ⟨s,t⟩ o σ rfl h
  refine tg_ hC [.n 6] rfl ?_
  rcases QB h with⟨a,h⟩|⟨a,h⟩
  ·obtain⟨b,g,h⟩:=Qd h
   obtain⟨i,j,h⟩:=Qd h
   refine Qa hC [.T,.n 6,.o (.row (Qv b)),.v .no [] (.agg (Qv b)),.n 2,.O 8 (.var (Qv b)),.n 5,.v .no [] (.agg (Qv b)),.cm (.clo) [(605,605)] [(605,605)] [605] [.d,.d] [(605,.arr 1 (i.map Qs))] (.own 605 i.length),.n 8,.K [0,2,14,15,16] [605]] rfl ⟨⟨⟨⟨⟨⟨tt_,a⟩,(Qar g)⟩,rfl⟩,rfl⟩,rfl⟩,(Qky _ _ j)⟩ ?_
   cases h
   exact QaR rfl rfl
  refine Qa hC [.F,.n 2,.K [0] [605]] rfl ⟨tt_,a⟩ ?_
  cases h
  exact QaM rfl (an_ rfl rfl)
 replace h:Qfw m=some r:=h
 rintro e σ ⟨rfl,rfl⟩
 refine tg_ hC [.n 9] rfl ?_
 cases h
 exact d1_ rfl rfl ⟨rfl,tt_⟩
def Qko (a:(List Int))(b:QBg):Option (List Int):=
 (QgJ a b).bind fun c=>
 some c
theorem QlA (a c){r}(h:Qko a c=some r):Qh prog 57 [.own 605 a.length,.sl 2 (c.map Qv)] [(605,.arr 1 (a.map Qs))] (Qp (.own 605 r.length) [(605,.arr 1 (r.map Qs))]):=by
 refine Qh.walk 8 func57 rfl rfl rfl fun C hC=>?_
 obtain⟨e,b,h⟩:=Qd h
 refine Qa hC [.n 9,.cm (.fn) [(605,605)] [(605,605)] [605] [.d,.d,.d] [(605,.arr 1 (e.map Qs))] (.own 605 e.length),.n 4] rfl ⟨tt_,(Qjc _ _ b)⟩ ?_
 cases h
 exact d1_ rfl rfl ⟨rfl,tt_⟩
def QeA (d:QMk)(a:Int)(e:(List Int)):Option ((Int×(List Int))⊕(List Int)):=
 bif (decide (a<(d.length:Int)))then
 (idx d a).bind fun b=>
 (Qko e b).bind fun c=>
 some (.inl ((w64 (a+1)),c))
 else
 some (.inr e)
def QeB (a:(List Int)):Option (List Int):=
 some a
def QfO (b:(List Int))(a:QMk):Option (List Int):=
 (QaH b ([(a.length:Int)]:List Int)).bind fun c=>
 (QK (fun st=>QeA a st.1 st.2) (0,c)).bind (fun q=>QeB q)
theorem Qij (j b){r}(h:QfO j b=some r):Qh prog 55 [.own 605 j.length,.sl 1 (b.map Qam),.clo (.func 57) [] []] [(605,.arr 1 (j.map Qs))] (Qp (.own 605 r.length) [(605,.arr 1 (r.map Qs))]):=by
 refine Qh.walk 26 func55 rfl rfl rfl fun C hC=>?_
 obtain⟨p,k,h⟩:=Qd h
 refine Qa hC [.n 9,.o (.ln b.length),.v (.bd []) [] (.sl 1 (([(b.length:Int)]:List Int).map Qr)),.cm (.fn) [(605,605)] [(605,605)] [605] [.d,.d] [(605,.arr 1 (p.map Qs))] (.own 605 p.length),.n 7,.o (.ln b.length),.n 4,.K [0,2,14,15,16] [605]] rfl ⟨⟨⟨⟨tt_,Qj⟩,rfl⟩,(Qai _ _ k)⟩,Qj⟩ ?_
 obtain⟨l,c,h⟩:=Qd h
 refine AK.loop (body:=(fun st=>QeA b st.1 st.2)) (fun st σ=>σ=⟨[(0,.own 605 st.2.length),(2,.clo (.func 57) [] []),(14,.sl 1 (b.map Qam)),(15,.I (b.length:Int)),(16,.I st.1)],[(605,.arr 1 (st.2.map Qs))]⟩) (fun q e σ=>e=.exit 0∧σ=⟨[(0,.own 605 q.length)],[(605,.arr 1 (q.map Qs))]⟩) c rfl ?_ ?_
 ·rintro ⟨s,t⟩ o σ rfl h
  refine tg_ hC [.n 6] rfl ?_
  rcases QB h with⟨a,h⟩|⟨a,h⟩
  ·obtain⟨m,f,h⟩:=Qd h
   obtain⟨g,i,h⟩:=Qd h
   refine Qa hC [.T,.n 6,.o (.row (Qam m)),.n 8,.cm (.clo) [(605,605)] [(605,605)] [605] [.d,.d] [(605,.arr 1 (g.map Qs))] (.own 605 g.length),.n 8,.K [0,2,14,15,16] [605]] rfl ⟨⟨⟨tt_,a⟩,(Qar f)⟩,(QlA _ _ i)⟩ ?_
   cases h
   exact QaR rfl rfl
  refine Qa hC [.F,.n 2,.K [0] [605]] rfl ⟨tt_,a⟩ ?_
  cases h
  exact QaM rfl (an_ rfl rfl)
 replace h:QeB l=some r:=h
 rintro e σ ⟨rfl,rfl⟩
 refine tg_ hC [.n 9] rfl ?_
 cases h
 exact d1_ rfl rfl ⟨rfl,tt_⟩
def QjS (b:(List Int))(a:Qe):Option (List Int):=
 (QaH b ([a.Id]:List Int)).bind fun c=>
 (Qhn c a.Mode).bind fun d=>
 (QaH d ([a.Batch.Most,a.Batch.Enough,a.Batch.Open,a.Batch.Done,a.Batch.Failed,a.Until]:List Int)).bind fun e=>
 some e
theorem Qk5 (c b){r}(h:QjS c b=some r):Qh prog 58 [.own 605 c.length,.agg (Qb b)] [(605,.arr 1 (c.map Qs))] (Qp (.own 605 r.length) [(605,.arr 1 (r.map Qs))]):=by
 refine Qh.walk 30 func58 rfl rfl rfl fun C hC=>?_
 obtain⟨i,e,h⟩:=Qd h
 obtain⟨j,f,h⟩:=Qd h
 obtain⟨k,g,h⟩:=Qd h
 refine Qa hC [.n 9,.v .no [] (.agg (QT b.Batch)),.n 2,.O 5 (.var (QT b.Batch)),.n 3,.K [0,3,4,5] [3,5,605]] rfl ⟨⟨tt_,rfl⟩,rfl⟩ ?_
 refine AK.draw2 Qk hC mixed [.N,.N,.N,.a (.bd []) (some ([],.sl 1 (([b.Id]:List Int).map Qr))) false,.m (.cm (.fn) [(605,605)] [(605,605)] [605] [.d,.d] [(605,.arr 1 (i.map Qs))] (.own 605 i.length) []),.a .no none true,.a .no (some ([],.agg (QU b.Mode))) true,.m (.cm (.fn) [(605,605)] [(605,605)] [605] [.d,.d] [(605,.arr 1 (j.map Qs))] (.own 605 j.length) []),.a .no none true,.a .no none true,.a .no none true,.a .no none true,.a .no none true,.a .no none true,.a .no none true,.a .no none true,.a .no none true,.a .no none true,.a .no none true,.a .no none true,.a (.bd []) (some ([],.sl 1 (([b.Batch.Most,b.Batch.Enough,b.Batch.Open,b.Batch.Done,b.Batch.Failed,b.Until]:List Int).map Qr))) true,.m (.cm (.fn) [(605,605)] [(605,605)] [605] [.d,.d] [(605,.arr 1 (k.map Qs))] (.own 605 k.length) []),.m .s] [3,4,5] [3,5] [4] [605] rfl rfl rfl ⟨⟨⟨⟨⟨⟨tt_,rfl⟩,⟨tt_,(Qai _ _ e)⟩⟩,rfl⟩,⟨tt_,(QhT _ _ f)⟩⟩,rfl⟩,⟨tt_,(Qai _ _ g)⟩⟩ rfl (by kernel_rfl) rfl rfl rfl ?_
 refine tg_ hC [.n 2] rfl ?_
 cases h
 exact d1_ rfl rfl ⟨rfl,tt_⟩
def Qeo (d:(List Qe))(a:Int)(e:(List Int)):Option ((Int×(List Int))⊕(List Int)):=
 bif (decide (a<(d.length:Int)))then
 (idx d a).bind fun b=>
 (QjS e b).bind fun c=>
 some (.inl ((w64 (a+1)),c))
 else
 some (.inr e)
def Qep (a:(List Int)):Option (List Int):=
 some a
def Qfx (b:(List Int))(a:(List Qe)):Option (List Int):=
 (QaH b ([(a.length:Int)]:List Int)).bind fun c=>
 (QK (fun st=>Qeo a st.1 st.2) (0,c)).bind (fun q=>Qep q)
theorem Qhz (k c){r}(h:Qfx k c=some r):Qh prog 54 [.own 605 k.length,.sl 11 (c.map Qb),.clo (.func 58) [] []] [(605,.arr 1 (k.map Qs))] (Qp (.own 605 r.length) [(605,.arr 1 (r.map Qs))]):=by
 refine Qh.walk 26 func54 rfl rfl rfl fun C hC=>?_
 obtain⟨p,l,h⟩:=Qd h
 refine Qa hC [.n 9,.o (.ln c.length),.v (.bd []) [] (.sl 1 (([(c.length:Int)]:List Int).map Qr)),.cm (.fn) [(605,605)] [(605,605)] [605] [.d,.d] [(605,.arr 1 (p.map Qs))] (.own 605 p.length),.n 7,.o (.ln c.length),.n 4,.K [0,2,14,15,16] [605]] rfl ⟨⟨⟨⟨tt_,Qj⟩,rfl⟩,(Qai _ _ l)⟩,Qj⟩ ?_
 obtain⟨m,f,h⟩:=Qd h
 refine AK.loop (body:=(fun st=>Qeo c st.1 st.2)) (fun st σ=>σ=⟨[(0,.own 605 st.2.length),(2,.clo (.func 58) [] []),(14,.sl 11 (c.map Qb)),(15,.I (c.length:Int)),(16,.I st.1)],[(605,.arr 1 (st.2.map Qs))]⟩) (fun q e σ=>e=.exit 0∧σ=⟨[(0,.own 605 q.length)],[(605,.arr 1 (q.map Qs))]⟩) f rfl ?_ ?_
 ·rintro ⟨s,t⟩ o σ rfl h
  refine tg_ hC [.n 6] rfl ?_
  rcases QB h with⟨a,h⟩|⟨a,h⟩
  ·obtain⟨b,g,h⟩:=Qd h
   obtain⟨i,j,h⟩:=Qd h
   refine Qa hC [.T,.n 6,.o (.row (Qb b)),.v .no [] (.agg (Qb b)),.n 2,.O 8 (.var (Qb b)),.n 5,.v .no [] (.agg (Qb b)),.cm (.clo) [(605,605)] [(605,605)] [605] [.d,.d] [(605,.arr 1 (i.map Qs))] (.own 605 i.length),.n 8,.K [0,2,14,15,16] [605]] rfl ⟨⟨⟨⟨⟨⟨tt_,a⟩,(Qar g)⟩,rfl⟩,rfl⟩,rfl⟩,(Qk5 _ _ j)⟩ ?_
   cases h
   exact QaR rfl rfl
  refine Qa hC [.F,.n 2,.K [0] [605]] rfl ⟨tt_,a⟩ ?_
  cases h
  exact QaM rfl (an_ rfl rfl)
 replace h:Qep m=some r:=h
 rintro e σ ⟨rfl,rfl⟩
 refine tg_ hC [.n 9] rfl ?_
 cases h
 exact d1_ rfl rfl ⟨rfl,tt_⟩
def Qgs (a:QbY):Option (List Int):=
 (Qih ([a.Next,a.Now]:List Int)).bind fun b=>
 (QfO b a.M).bind fun c=>
 (Qfx c a.Items).bind fun d=>
 some d
theorem QiA (b){r}(h:Qgs b=some r):Qh prog 24 [.agg (Qaf b)] [] (Qp (.own 600 r.length) [(600,.arr 1 (r.map Qs))]):=by
 refine Qh.walk 15 func24 rfl rfl rfl fun C hC=>?_
 obtain⟨g,c,h⟩:=Qd h
 obtain⟨i,e,h⟩:=Qd h
 obtain⟨j,f,h⟩:=Qd h
 refine tg_ hC [.n 7,.K [1,2] [1]] rfl ?_
 refine AK.draw2 Qk hC mixed [.N,.N,.N,.N,.a (.bd []) (some ([],.sl 1 (([b.Next,b.Now]:List Int).map Qr))) false,.m (.cm (.fn) [] [(8,600)] [8] [.d,.d] [(600,.arr 1 (g.map Qs))] (.own 600 g.length) []),.a .no none true,.a .no none true,.m (.cm (.fn) [(605,8)] [(8,605)] [8] [.d,.d,.d] [(605,.arr 1 (i.map Qs))] (.own 605 i.length) []),.a .no none true,.a .no none true,.m (.cm (.fn) [(605,8)] [(8,605)] [8] [.d,.d,.d] [(605,.arr 1 (j.map Qs))] (.own 605 j.length) []),.m .s] [1,2] [1] [2] [8] rfl rfl rfl ⟨⟨⟨⟨tt_,rfl⟩,⟨tt_,(Qix _ c)⟩⟩,⟨tt_,(Qij _ _ e)⟩⟩,⟨tt_,(Qhz _ _ f)⟩⟩ rfl (by kernel_rfl) rfl rfl rfl ?_
 refine tg_ hC [.n 2,.K [2] [8],.ren 8 600] rfl ?_
 cases h
 exact d1_ rfl rfl ⟨rfl,tt_⟩
def QeC (c:Qg)(d:Int)(e:Int):Option (Qg×QbY):=
 (Qz c).bind fun a=>
 (Qz a.2).bind fun b=>
 some (b.2,(QbY.mk ([]:List QBg) ([]:List Qe) a.1 b.1))
theorem Qg1 (k l f){r}(h:QeC k l f=some r):Qh prog 67 [.loc 607 0 0,.own 608 2] [(607,.var (Qc k)),(608,.var [.loc 609 0 2,.loc 609 0 3]),(609,.var [.lit (.slice none 0 0),.lit (.slice none 0 0),.I l,.I f])] (Qp (.tup []) [(607,.var (Qc r.1)),(608,.var [.loc 609 0 2,.loc 609 0 3]),(609,.var (Qaf r.2))]):=by
 refine Qh.walk 17 func67 rfl rfl rfl fun C hC=>?_
 refine tg_ hC [.n 8] rfl ?_
 refine AK.loopN 3 (AK.rnd ?_)
 obtain⟨a,g,h⟩:=Qd h
 refine Qa hC [.n 2,.v .no [] (.b true),.n 10,.o (.any (.loc 608 0 0) none),.n 7,.cm (.fn) [(607,607)] [(607,607)] [] [.d] [(607,.var (Qc a.2))] (.I a.1),.n 2,.O 609 (.var [.lit (.slice none 0 0),.lit (.slice none 0 0),.I a.1,.I f]),.n 4,.v .no [] (.I 1),.n 2] rfl ⟨⟨⟨⟨⟨tt_,rfl⟩,(fun σ c i _=>Stp.idxV rfl rfl (Qt hC.n rfl) (c _ _ rfl) (c _ _ rfl) (Qk.es rfl) (i _ _ rfl) (by decide))⟩,(Qw _ g)⟩,rfl⟩,rfl⟩ ?_
 refine AK.met (AK.rnd ?_)
 obtain⟨e,j,h⟩:=Qd h
 refine Qa hC [.n 2,.v .no [] (.b true),.n 10,.o (.any (.loc 608 0 1) none),.n 7,.cm (.fn) [(607,607)] [(607,607)] [] [.d] [(607,.var (Qc e.2))] (.I e.1),.n 2,.O 609 (.var [.lit (.slice none 0 0),.lit (.slice none 0 0),.I a.1,.I e.1]),.n 4,.v .no [] (.I 2),.n 2] rfl ⟨⟨⟨⟨⟨tt_,rfl⟩,(fun σ c i _=>Stp.idxV rfl rfl (Qt hC.n rfl) (c _ _ rfl) (c _ _ rfl) (Qk.es rfl) (i _ _ rfl) (by decide))⟩,(Qw _ j)⟩,rfl⟩,rfl⟩ ?_
 refine AK.met (AK.rnd ?_)
 refine Qa hC [.n 2,.v .no [] (.b false),.n 8,.denilO 609 [some 1,some 11,none,none],.O 609 (.var (Qaf (QbY.mk ([]:List QBg) ([]:List Qe) a.1 e.1))),.K [] [607,608,609]] rfl ⟨⟨tt_,rfl⟩,rfl⟩ ?_
 cases h
 refine AK.done ?_
 exact ex_ [] (an_ tt_ (Qas ⟨rfl,rfl,rfl,tt_⟩))
def QeD (c:Qg)(d:(Int×Int)):Option (Qg×(Int×Int)):=
 (Qz c).bind fun a=>
 (Qz a.2).bind fun b=>
 some (b.2,(a.1,b.1))
theorem Qg2 (k e){r}(h:QeD k e=some r):Qh prog 67 [.loc 607 0 0,.own 608 2] [(607,.var (Qc k)),(608,.var [.loc 609 0 0,.loc 609 0 1]),(609,.var (Qv e))] (Qp (.tup []) [(607,.var (Qc r.1)),(608,.var [.loc 609 0 0,.loc 609 0 1]),(609,.var (Qv r.2))]):=by
 refine Qh.walk 17 func67 rfl rfl rfl fun C hC=>?_
 refine tg_ hC [.n 8] rfl ?_
 refine AK.loopN 3 (AK.rnd ?_)
 obtain⟨c,f,h⟩:=Qd h
 refine Qa hC [.n 2,.v .no [] (.b true),.n 10,.o (.any (.loc 608 0 0) none),.n 7,.cm (.fn) [(607,607)] [(607,607)] [] [.d] [(607,.var (Qc c.2))] (.I c.1),.n 2,.O 609 (.var (Qv (c.1,e.2))),.n 4,.v .no [] (.I 1),.n 2] rfl ⟨⟨⟨⟨⟨tt_,rfl⟩,(fun σ a g _=>Stp.idxV rfl rfl (Qt hC.n rfl) (a _ _ rfl) (a _ _ rfl) (Qk.es rfl) (g _ _ rfl) (by decide))⟩,(Qw _ f)⟩,rfl⟩,rfl⟩ ?_
 refine AK.met (AK.rnd ?_)
 obtain⟨i,j,h⟩:=Qd h
 refine Qa hC [.n 2,.v .no [] (.b true),.n 10,.o (.any (.loc 608 0 1) none),.n 7,.cm (.fn) [(607,607)] [(607,607)] [] [.d] [(607,.var (Qc i.2))] (.I i.1),.n 2,.O 609 (.var (Qv (c.1,i.1))),.n 4,.v .no [] (.I 2),.n 2] rfl ⟨⟨⟨⟨⟨tt_,rfl⟩,(fun σ a g _=>Stp.idxV rfl rfl (Qt hC.n rfl) (a _ _ rfl) (a _ _ rfl) (Qk.es rfl) (g _ _ rfl) (by decide))⟩,(Qw _ j)⟩,rfl⟩,rfl⟩ ?_
 refine AK.met (AK.rnd ?_)
 refine Qa hC [.n 2,.v .no [] (.b false),.n 8,.K [] [607,608,609]] rfl ⟨tt_,rfl⟩ ?_
 cases h
 refine AK.done ?_
 exact ex_ [] (an_ tt_ (Qas ⟨rfl,rfl,rfl,tt_⟩))
def QgK (b:Qg):Option ((Int×Int)×Qg):=
 (QeD b (0,0)).bind fun a=>
 some (a.2,a.1)
theorem Qjd (c){r}(h:QgK c=some r):Qh prog 100 [.loc 607 0 0] [(607,.var (Qc c))] (Qp (.agg (Qv r.1)) [(607,.var (Qc r.2))]):=by
 refine Qh.walk 10 func100 rfl rfl rfl fun C hC=>?_
 obtain⟨a,b,h⟩:=Qd h
 refine Qa hC [.n 15,.o (.any (.own 7 2) (some (.var [.loc 3 0 0,.loc 3 0 1]))),.cm (.fn) [(607,607),(608,7),(609,3)] [(607,607),(7,608),(3,609)] [] [.d,.d] [(607,.var (Qc a.1)),(608,.var [.loc 609 0 0,.loc 609 0 1]),(609,.var (Qv a.2))] (.tup []),.n 4,.v .no [] (.agg (Qv a.2)),.n 1,.O 2 (.var (Qv a.2)),.n 3,.K [2] [2,607]] rfl ⟨⟨⟨⟨tt_,(fun σ e f hf=>Stp.buildAny rfl rfl (Qt hC.n rfl) (Qk.es rfl) Qjb rfl (by decide) (by decide) (Qcs e rfl) rfl rfl (hf rfl))⟩,(Qg2 _ _ b)⟩,rfl⟩,rfl⟩ ?_
 cases h
 exact AK.done (ex_ [_] (an_ (an_ (ex_ _ (ex_ _ (an_ rfl (an_ rfl (Or.inl (an_ (Qk.ag rfl) (an_ (Qk.sz rfl) rfl))))))) tt_) (Qas ⟨rfl,tt_⟩)))
def QiB (a:(Int×Qg)):Option Qg:=
 bif a.2.bad then
 some (Qg.mk a.2.b true)
 else
 some (Qg.mk a.2.b (decide (a.1<0)))
def Qe7 (e:(Int×Qg))(d:Int)(a:Qg)(b:QBg):Option ((Int×Qg×QBg)⊕(QBg×Qg)):=
 bif ((decide (d<e.1))&&(!a.bad))then
 (QgK a).bind fun c=>
 (chk (decide (b.length+([c.1]:List (Int×Int)).length≤4294967296))).bind fun _=>
 some (.inl ((w64 (d+1)),c.2,(b++([c.1]:List (Int×Int)))))
 else
 some (.inr (b,a))
def Qe8 (a:QBg)(b:Qg):Option (QBg×Qg):=
 some (a,b)
def Qc6 (a:(Int×Qg))(b:Qg):Option (QBg×Qg):=
 (QK (fun st=>Qe7 a st.1 st.2.1 st.2.2) (0,b,([]:List (Int×Int)))).bind (fun q=>Qe8 q.1 q.2)
def Qgt (b:Qg):Option (QBg×Qg):=
 (Qz b).bind fun a=>
 (QiB a).bind (fun c=>Qc6 a c)
theorem QiC (A){r}(h:Qgt A=some r):Qh prog 99 [.loc 607 0 0,.clo (.func 100) [] []] [(607,.var (Qc A))] (Qp (.own 600 r.1.length) [(600,.arr 2 (r.1.map Qv)),(607,.var (Qc r.2))]):=by
 refine Qh.walk 40 func99 rfl rfl rfl fun C hC=>?_
 obtain⟨c,t,h⟩:=Qd h
 refine Qa hC [.n 8,.cm (.fn) [(607,607)] [(607,607)] [] [.d] [(607,.var (Qc c.2))] (.I c.1),.n 4] rfl ⟨tt_,(Qw _ t)⟩ ?_
 obtain⟨u,w,h⟩:=Qd h
 replace h:Qc6 c u=some r:=h
 refine AK.meetX (fun σ=>σ=⟨[(0,.loc 607 0 0),(1,.clo (.func 100) [] []),(5,.I c.1)],[(607,.var (Qc u))]⟩) ?_ ?_
 ·replace h:=w
  refine tg_ hC [.n 7] rfl ?_
  refine bg_ h (fun k h=>Qa hC [.S 15 (.b true),.n 6,.O 607 (.var (Qc (Qg.mk c.2.b true))),.n 1,.K [0,1,5] [607]] rfl ⟨(tc_ k),rfl⟩ ?_) fun k h=>Qa hC [.S 15 (.b false),.n 6,.O 607 (.var (Qc (Qg.mk c.2.b (decide (c.1<0))))),.n 1,.K [0,1,5] [607]] rfl ⟨(tc_ k),rfl⟩ ?_
  ·cases h
   exact AK.met rfl
  cases h
  exact AK.met rfl
 rintro σ rfl
 replace h:Qc6 c u=some r:=h
 refine Qa hC [.n 13,.adopt 6 33 2,.O 33 (.arr 2 (([]:List (Int×Int)).map Qv)),.S 6 (.own 33 ([]:List (Int×Int)).length),.K [0,1,5,6,7] [33,607]] rfl ⟨⟨tt_,rfl⟩,(congrArg (fun n=>V.own 33 n) (by simp))⟩ ?_
 obtain⟨x,l,h⟩:=Qd h
 refine AK.loop (body:=(fun st=>Qe7 c st.1 st.2.1 st.2.2)) (fun st σ=>σ=⟨[(0,.loc 607 0 0),(1,.clo (.func 100) [] []),(5,.I c.1),(6,.own 33 st.2.2.length),(7,.I st.1)],[(33,.arr 2 (st.2.2.map Qv)),(607,.var (Qc st.2.1))]⟩) (fun q e σ=>e=.exit 0∧σ=⟨[(6,.own 33 q.1.length)],[(33,.arr 2 (q.1.map Qv)),(607,.var (Qc q.2))]⟩) l rfl ?_ ?_
 ·rintro ⟨m,i,j⟩ o σ rfl h
  refine tg_ hC [.n 2] rfl ?_
  refine AK.meetX (fun σ=>σ=⟨[(0,.loc 607 0 0),(1,.clo (.func 100) [] []),(5,.I c.1),(6,.own 33 j.length),(7,.I m),(30,.b ((decide (m<c.1))&&(!i.bad)))],[(33,.arr 2 (j.map Qv)),(607,.var (Qc i))]⟩) ?_ ?_
  ·refine tg_ hC [.n 5] rfl ?_
   rcases Qa6 (decide (m<c.1))with a | a
   ·refine Qa hC [.S 24 (.b true),.n 7,.S 30 (.b ((decide (m<c.1))&&(!i.bad))),.K [0,1,5,6,7,30] [33,607]] rfl ⟨(tc_ a),(congrArg V.b (QjD a rfl))⟩ ?_
    exact AK.met rfl
   refine Qa hC [.S 24 (.b false),.n 7,.S 30 (.b ((decide (m<c.1))&&(!i.bad))),.K [0,1,5,6,7,30] [33,607]] rfl ⟨(tc_ a),(congrArg V.b (QjE a rfl))⟩ ?_
   exact AK.met rfl
  rintro σ rfl
  refine tg_ hC [.n 1] rfl ?_
  rcases QB h with⟨f,h⟩|⟨f,h⟩
  ·obtain⟨g,p,h⟩:=Qd h
   obtain⟨s,h⟩:=QaV h
   refine Qa hC [.T,.n 8,.cm (.clo) [(607,607)] [(607,607)] [] [.d] [(607,.var (Qc g.2))] (.agg (Qv g.1)),.v (.bd []) [] (.sl 2 (([g.1]:List (Int×Int)).map Qv)),.app ((j++([g.1]:List (Int×Int))).map Qv) (j++([g.1]:List (Int×Int))).length,.n 9,.K [0,1,5,6,7] [33,607]] rfl ⟨⟨⟨⟨tt_,f⟩,(Qjd _ p)⟩,rfl⟩,⟨Qj,QbA s Qj,QaZ,Qcb Qj⟩⟩ ?_
   cases h
   exact QaR rfl rfl
  refine Qa hC [.F,.n 2,.K [6] [33,607]] rfl ⟨tt_,f⟩ ?_
  cases h
  exact QaM rfl (an_ rfl rfl)
 obtain⟨y,z⟩:=x
 replace h:Qe8 y z=some r:=h
 rintro e σ ⟨rfl,rfl⟩
 refine tg_ hC [.n 9,.K [4] [33,607],.ren 33 600] rfl ?_
 cases h
 exact d1_ rfl rfl ⟨rfl,rfl,tt_⟩
def QhU (b:Qg):Option (QBg×Qg):=
 (Qgt b).bind fun a=>
 some (a.1,a.2)
theorem QjT (c){r}(h:QhU c=some r):Qh prog 69 [.loc 607 0 0] [(607,.var (Qc c))] (Qp (.own 600 r.1.length) [(600,.arr 2 (r.1.map Qv)),(607,.var (Qc r.2))]):=by
 refine Qh.walk 5 func69 rfl rfl rfl fun C hC=>?_
 obtain⟨a,b,h⟩:=Qd h
 refine Qa hC [.n 8,.cm (.fn) [(607,607)] [(4,600),(607,607)] [] [.d,.d] [(600,.arr 2 (a.1.map Qv)),(607,.var (Qc a.2))] (.own 600 a.1.length),.n 4,.K [2] [4,607],.ren 4 600] rfl ⟨tt_,(QiC _ b)⟩ ?_
 cases h
 exact d1_ rfl rfl ⟨rfl,rfl,tt_⟩
def QhA (a:(Int×Qg)):Option Qg:=
 bif a.2.bad then
 some (Qg.mk a.2.b true)
 else
 some (Qg.mk a.2.b (decide (a.1<0)))
def Qeq (e:(Int×Qg))(d:Int)(a:Qg)(b:QMk):Option ((Int×Qg×QMk)⊕(QMk×Qg)):=
 bif ((decide (d<e.1))&&(!a.bad))then
 (QhU a).bind fun c=>
 (chk (decide (b.length+([c.1]:List QBg).length≤4294967296))).bind fun _=>
 some (.inl ((w64 (d+1)),c.2,(b++([c.1]:List QBg))))
 else
 some (.inr (b,a))
def Qer (a:QMk)(b:Qg):Option (QMk×Qg):=
 some (a,b)
def QcI (a:(Int×Qg))(b:Qg):Option (QMk×Qg):=
 (QK (fun st=>Qeq a st.1 st.2.1 st.2.2) (0,b,([]:List QBg))).bind (fun q=>Qer q.1 q.2)
def Qfy (b:Qg):Option (QMk×Qg):=
 (Qz b).bind fun a=>
 (QhA a).bind (fun c=>QcI a c)
theorem QhB (A){r}(h:Qfy A=some r):Qh prog 68 [.loc 607 0 0,.clo (.func 69) [] []] [(607,.var (Qc A))] (Qp (.own 600 r.1.length) [(600,.arr 1 (r.1.map Qam)),(607,.var (Qc r.2))]):=by
 refine Qh.walk 40 func68 rfl rfl rfl fun C hC=>?_
 obtain⟨c,t,h⟩:=Qd h
 refine Qa hC [.n 8,.cm (.fn) [(607,607)] [(607,607)] [] [.d] [(607,.var (Qc c.2))] (.I c.1),.n 4] rfl ⟨tt_,(Qw _ t)⟩ ?_
 obtain⟨u,w,h⟩:=Qd h
 replace h:QcI c u=some r:=h
 refine AK.meetX (fun σ=>σ=⟨[(0,.loc 607 0 0),(1,.clo (.func 69) [] []),(5,.I c.1)],[(607,.var (Qc u))]⟩) ?_ ?_
 ·replace h:=w
  refine tg_ hC [.n 7] rfl ?_
  refine bg_ h (fun k h=>Qa hC [.S 15 (.b true),.n 6,.O 607 (.var (Qc (Qg.mk c.2.b true))),.n 1,.K [0,1,5] [607]] rfl ⟨(tc_ k),rfl⟩ ?_) fun k h=>Qa hC [.S 15 (.b false),.n 6,.O 607 (.var (Qc (Qg.mk c.2.b (decide (c.1<0))))),.n 1,.K [0,1,5] [607]] rfl ⟨(tc_ k),rfl⟩ ?_
  ·cases h
   exact AK.met rfl
  cases h
  exact AK.met rfl
 rintro σ rfl
 replace h:QcI c u=some r:=h
 refine Qa hC [.n 13,.adopt 6 33 1,.O 33 (.arr 1 (([]:List QBg).map Qam)),.S 6 (.own 33 ([]:List QBg).length),.K [0,1,5,6,7] [33,607]] rfl ⟨⟨tt_,rfl⟩,(congrArg (fun n=>V.own 33 n) (by simp))⟩ ?_
 obtain⟨x,l,h⟩:=Qd h
 refine AK.loop (body:=(fun st=>Qeq c st.1 st.2.1 st.2.2)) (fun st σ=>σ=⟨[(0,.loc 607 0 0),(1,.clo (.func 69) [] []),(5,.I c.1),(6,.own 33 st.2.2.length),(7,.I st.1)],[(33,.arr 1 (st.2.2.map Qam)),(607,.var (Qc st.2.1))]⟩) (fun q e σ=>e=.exit 0∧σ=⟨[(6,.own 33 q.1.length)],[(33,.arr 1 (q.1.map Qam)),(607,.var (Qc q.2))]⟩) l rfl ?_ ?_
 ·rintro ⟨m,i,j⟩ o σ rfl h
  refine tg_ hC [.n 2] rfl ?_
  refine AK.meetX (fun σ=>σ=⟨[(0,.loc 607 0 0),(1,.clo (.func 69) [] []),(5,.I c.1),(6,.own 33 j.length),(7,.I m),(30,.b ((decide (m<c.1))&&(!i.bad)))],[(33,.arr 1 (j.map Qam)),(607,.var (Qc i))]⟩) ?_ ?_
  ·refine tg_ hC [.n 5] rfl ?_
   rcases Qa6 (decide (m<c.1))with a | a
   ·refine Qa hC [.S 24 (.b true),.n 7,.S 30 (.b ((decide (m<c.1))&&(!i.bad))),.K [0,1,5,6,7,30] [33,607]] rfl ⟨(tc_ a),(congrArg V.b (QjD a rfl))⟩ ?_
    exact AK.met rfl
   refine Qa hC [.S 24 (.b false),.n 7,.S 30 (.b ((decide (m<c.1))&&(!i.bad))),.K [0,1,5,6,7,30] [33,607]] rfl ⟨(tc_ a),(congrArg V.b (QjE a rfl))⟩ ?_
   exact AK.met rfl
  rintro σ rfl
  refine tg_ hC [.n 1] rfl ?_
  rcases QB h with⟨g,h⟩|⟨g,h⟩
  ·obtain⟨f,p,h⟩:=Qd h
   obtain⟨s,h⟩:=QaV h
   refine Qa hC [.T,.n 8,.cm (.clo) [(607,607)] [(36,600),(607,607)] [] [.d] [(600,.arr 2 (f.1.map Qv)),(607,.var (Qc f.2))] (.own 600 f.1.length),.frz 36 (f.1.map Qv) [36] [],.v (.bd []) [] (.sl 1 (([f.1]:List QBg).map Qam)),.app ((j++([f.1]:List QBg)).map Qam) (j++([f.1]:List QBg)).length,.n 9,.K [0,1,5,6,7] [33,607]] rfl ⟨⟨⟨⟨⟨tt_,g⟩,(QjT _ p)⟩,⟨tt_,(QbT Qj)⟩⟩,rfl⟩,⟨Qj,QbA s Qj,QaZ,Qcb Qj⟩⟩ ?_
   cases h
   exact QaR rfl rfl
  refine Qa hC [.F,.n 2,.K [6] [33,607]] rfl ⟨tt_,g⟩ ?_
  cases h
  exact QaM rfl (an_ rfl rfl)
 obtain⟨y,z⟩:=x
 replace h:Qer y z=some r:=h
 rintro e σ ⟨rfl,rfl⟩
 refine tg_ hC [.n 9,.K [4] [33,607],.ren 33 600] rfl ?_
 cases h
 exact d1_ rfl rfl ⟨rfl,rfl,tt_⟩
def QeE (h:Qg)(b:Qe):Option (Qg×Qe):=
 (Qz h).bind fun c=>
 (Qz c.2).bind fun d=>
 (Qz d.2).bind fun e=>
 (Qz e.2).bind fun f=>
 (Qz f.2).bind fun g=>
 (Qz g.2).bind fun a=>
 some (a.2,(Qe.mk b.Id b.Mode (QV.mk c.1 d.1 e.1 f.1 g.1) a.1))
theorem Qg3 (w a){r}(h:QeE w a=some r):Qh prog 67 [.loc 607 0 0,.own 608 6] [(607,.var (Qc w)),(608,.var [.loc 609 0 5,.loc 609 0 6,.loc 609 0 7,.loc 609 0 8,.loc 609 0 9,.loc 609 0 10]),(609,.var (Qb a))] (Qp (.tup []) [(607,.var (Qc r.1)),(608,.var [.loc 609 0 5,.loc 609 0 6,.loc 609 0 7,.loc 609 0 8,.loc 609 0 9,.loc 609 0 10]),(609,.var (Qb r.2))]):=by
 refine Qh.walk 17 func67 rfl rfl rfl fun C hC=>?_
 refine tg_ hC [.n 8] rfl ?_
 refine AK.loopN 7 (AK.rnd ?_)
 obtain⟨f,p,h⟩:=Qd h
 refine Qa hC [.n 2,.v .no [] (.b true),.n 10,.o (.any (.loc 608 0 0) none),.n 7,.cm (.fn) [(607,607)] [(607,607)] [] [.d] [(607,.var (Qc f.2))] (.I f.1),.n 2,.O 609 (.var (Qb (Qe.mk a.Id a.Mode (QV.mk f.1 a.Batch.Enough a.Batch.Open a.Batch.Done a.Batch.Failed) a.Until))),.n 4,.v .no [] (.I 1),.n 2] rfl ⟨⟨⟨⟨⟨tt_,rfl⟩,(fun σ c e _=>Stp.idxV rfl rfl (Qt hC.n rfl) (c _ _ rfl) (c _ _ rfl) (Qk.es rfl) (e _ _ rfl) (by decide))⟩,(Qw _ p)⟩,rfl⟩,rfl⟩ ?_
 refine AK.met (AK.rnd ?_)
 obtain⟨g,q,h⟩:=Qd h
 refine Qa hC [.n 2,.v .no [] (.b true),.n 10,.o (.any (.loc 608 0 1) none),.n 7,.cm (.fn) [(607,607)] [(607,607)] [] [.d] [(607,.var (Qc g.2))] (.I g.1),.n 2,.O 609 (.var (Qb (Qe.mk a.Id a.Mode (QV.mk f.1 g.1 a.Batch.Open a.Batch.Done a.Batch.Failed) a.Until))),.n 4,.v .no [] (.I 2),.n 2] rfl ⟨⟨⟨⟨⟨tt_,rfl⟩,(fun σ c e _=>Stp.idxV rfl rfl (Qt hC.n rfl) (c _ _ rfl) (c _ _ rfl) (Qk.es rfl) (e _ _ rfl) (by decide))⟩,(Qw _ q)⟩,rfl⟩,rfl⟩ ?_
 refine AK.met (AK.rnd ?_)
 obtain⟨j,s,h⟩:=Qd h
 refine Qa hC [.n 2,.v .no [] (.b true),.n 10,.o (.any (.loc 608 0 2) none),.n 7,.cm (.fn) [(607,607)] [(607,607)] [] [.d] [(607,.var (Qc j.2))] (.I j.1),.n 2,.O 609 (.var (Qb (Qe.mk a.Id a.Mode (QV.mk f.1 g.1 j.1 a.Batch.Done a.Batch.Failed) a.Until))),.n 4,.v .no [] (.I 3),.n 2] rfl ⟨⟨⟨⟨⟨tt_,rfl⟩,(fun σ c e _=>Stp.idxV rfl rfl (Qt hC.n rfl) (c _ _ rfl) (c _ _ rfl) (Qk.es rfl) (e _ _ rfl) (by decide))⟩,(Qw _ s)⟩,rfl⟩,rfl⟩ ?_
 refine AK.met (AK.rnd ?_)
 obtain⟨k,t,h⟩:=Qd h
 refine Qa hC [.n 2,.v .no [] (.b true),.n 10,.o (.any (.loc 608 0 3) none),.n 7,.cm (.fn) [(607,607)] [(607,607)] [] [.d] [(607,.var (Qc k.2))] (.I k.1),.n 2,.O 609 (.var (Qb (Qe.mk a.Id a.Mode (QV.mk f.1 g.1 j.1 k.1 a.Batch.Failed) a.Until))),.n 4,.v .no [] (.I 4),.n 2] rfl ⟨⟨⟨⟨⟨tt_,rfl⟩,(fun σ c e _=>Stp.idxV rfl rfl (Qt hC.n rfl) (c _ _ rfl) (c _ _ rfl) (Qk.es rfl) (e _ _ rfl) (by decide))⟩,(Qw _ t)⟩,rfl⟩,rfl⟩ ?_
 refine AK.met (AK.rnd ?_)
 obtain⟨m,u,h⟩:=Qd h
 refine Qa hC [.n 2,.v .no [] (.b true),.n 10,.o (.any (.loc 608 0 4) none),.n 7,.cm (.fn) [(607,607)] [(607,607)] [] [.d] [(607,.var (Qc m.2))] (.I m.1),.n 2,.O 609 (.var (Qb (Qe.mk a.Id a.Mode (QV.mk f.1 g.1 j.1 k.1 m.1) a.Until))),.n 4,.v .no [] (.I 5),.n 2] rfl ⟨⟨⟨⟨⟨tt_,rfl⟩,(fun σ c e _=>Stp.idxV rfl rfl (Qt hC.n rfl) (c _ _ rfl) (c _ _ rfl) (Qk.es rfl) (e _ _ rfl) (by decide))⟩,(Qw _ u)⟩,rfl⟩,rfl⟩ ?_
 refine AK.met (AK.rnd ?_)
 obtain⟨i,l,h⟩:=Qd h
 refine Qa hC [.n 2,.v .no [] (.b true),.n 10,.o (.any (.loc 608 0 5) none),.n 7,.cm (.fn) [(607,607)] [(607,607)] [] [.d] [(607,.var (Qc i.2))] (.I i.1),.n 2,.O 609 (.var (Qb (Qe.mk a.Id a.Mode (QV.mk f.1 g.1 j.1 k.1 m.1) i.1))),.n 4,.v .no [] (.I 6),.n 2] rfl ⟨⟨⟨⟨⟨tt_,rfl⟩,(fun σ c e _=>Stp.idxV rfl rfl (Qt hC.n rfl) (c _ _ rfl) (c _ _ rfl) (Qk.es rfl) (e _ _ rfl) (by decide))⟩,(Qw _ l)⟩,rfl⟩,rfl⟩ ?_
 refine AK.met (AK.rnd ?_)
 refine Qa hC [.n 2,.v .no [] (.b false),.n 8,.K [] [607,608,609]] rfl ⟨tt_,rfl⟩ ?_
 cases h
 refine AK.done ?_
 exact ex_ [] (an_ tt_ (Qas ⟨rfl,rfl,rfl,tt_⟩))
def Qho (d:Qg):Option (Qe×Qg):=
 (Qz d).bind fun a=>
 (QeV a.2).bind fun b=>
 (QeE b.2 (Qe.mk a.1 b.1 (QV.mk 0 0 0 0 0) 0)).bind fun c=>
 some (c.2,c.1)
theorem Qjp (j){r}(h:Qho j=some r):Qh prog 71 [.loc 607 0 0] [(607,.var (Qc j))] (Qp (.agg (Qb r.1)) [(607,.var (Qc r.2))]):=by
 refine Qh.walk 31 func71 rfl rfl rfl fun C hC=>?_
 obtain⟨c,f,h⟩:=Qd h
 obtain⟨e,g,h⟩:=Qd h
 obtain⟨b,i,h⟩:=Qd h
 refine Qa hC [.n 8,.cm (.fn) [(607,607)] [(607,607)] [] [.d] [(607,.var (Qc c.2))] (.I c.1),.n 1,.cm (.fn) [(607,607)] [(607,607)] [] [.d] [(607,.var (Qc e.2))] (.agg (QU e.1)),.v .no [] (.agg (Qb (Qe.mk c.1 e.1 (QV.mk 0 0 0 0 0) 0))),.n 2,.O 3 (.var (Qb (Qe.mk c.1 e.1 (QV.mk 0 0 0 0 0) 0))),.n 9,.K [0,2,3,4] [2,3,607]] rfl ⟨⟨⟨⟨tt_,(Qw _ f)⟩,(QfN _ g)⟩,rfl⟩,rfl⟩ ?_
 refine AK.draw2 Qk hC mixed [.N,.N,.N,.N,.N,.N,.N,.N,.N,.N,.N,.N,.N,.N,.N,.N,.N,.a (.any (.own 28 6) (some (.var [.loc 3 0 5,.loc 3 0 6,.loc 3 0 7,.loc 3 0 8,.loc 3 0 9,.loc 3 0 10]))) none false,.m (.cm (.fn) [(607,607),(608,28),(609,3)] [(607,607),(28,608),(3,609)] [] [.d,.d] [(607,.var (Qc b.1)),(608,.var [.loc 609 0 5,.loc 609 0 6,.loc 609 0 7,.loc 609 0 8,.loc 609 0 9,.loc 609 0 10]),(609,.var (Qb b.2))] (.tup []) [28])] [] [] [2,3] [2,3,607] rfl rfl rfl ⟨⟨tt_,(fun σ k l hf=>Stp.buildAny rfl rfl (Qt hC.n rfl) (Qk.es rfl) Qjb rfl (by decide) (by decide) (Qcs k rfl) rfl rfl (hf rfl))⟩,⟨⟨tt_,(Qg3 _ _ i)⟩,⟨rfl,tt_⟩⟩⟩ rfl (by kernel_rfl) rfl rfl rfl ?_
 refine Qa hC [.O 3 (.var (Qb b.2)),.O 607 (.var (Qc b.1)),.n 3,.v .no [] (.agg (Qb b.2)),.n 1,.O 2 (.var (Qb b.2)),.n 3,.K [2] [2,607]] rfl ⟨⟨⟨⟨tt_,rfl⟩,rfl⟩,rfl⟩,rfl⟩ ?_
 cases h
 exact AK.done (ex_ [_] (an_ (an_ (ex_ _ (ex_ _ (an_ rfl (an_ rfl (Or.inl (an_ (Qk.ag rfl) (an_ (Qk.sz rfl) rfl))))))) tt_) (Qas ⟨rfl,tt_⟩)))
def Qhp (a:(Int×Qg)):Option Qg:=
 bif a.2.bad then
 some (Qg.mk a.2.b true)
 else
 some (Qg.mk a.2.b (decide (a.1<0)))
def Qd6 (e:(Int×Qg))(d:Int)(a:Qg)(b:(List Qe)):Option ((Int×Qg×(List Qe))⊕((List Qe)×Qg)):=
 bif ((decide (d<e.1))&&(!a.bad))then
 (Qho a).bind fun c=>
 (chk (decide (b.length+([c.1]:List Qe).length≤4294967296))).bind fun _=>
 some (.inl ((w64 (d+1)),c.2,(b++([c.1]:List Qe))))
 else
 some (.inr (b,a))
def Qd7 (a:(List Qe))(b:Qg):Option ((List Qe)×Qg):=
 some (a,b)
def Qcu (a:(Int×Qg))(b:Qg):Option ((List Qe)×Qg):=
 (QK (fun st=>Qd6 a st.1 st.2.1 st.2.2) (0,b,([]:List Qe))).bind (fun q=>Qd7 q.1 q.2)
def Qe9 (b:Qg):Option ((List Qe)×Qg):=
 (Qz b).bind fun a=>
 (Qhp a).bind (fun c=>Qcu a c)
theorem Qhq (A){r}(h:Qe9 A=some r):Qh prog 70 [.loc 607 0 0,.clo (.func 71) [] []] [(607,.var (Qc A))] (Qp (.own 600 r.1.length) [(600,.arr 11 (r.1.map Qb)),(607,.var (Qc r.2))]):=by
 refine Qh.walk 40 func70 rfl rfl rfl fun C hC=>?_
 obtain⟨c,t,h⟩:=Qd h
 refine Qa hC [.n 8,.cm (.fn) [(607,607)] [(607,607)] [] [.d] [(607,.var (Qc c.2))] (.I c.1),.n 4] rfl ⟨tt_,(Qw _ t)⟩ ?_
 obtain⟨u,w,h⟩:=Qd h
 replace h:Qcu c u=some r:=h
 refine AK.meetX (fun σ=>σ=⟨[(0,.loc 607 0 0),(1,.clo (.func 71) [] []),(5,.I c.1)],[(607,.var (Qc u))]⟩) ?_ ?_
 ·replace h:=w
  refine tg_ hC [.n 7] rfl ?_
  refine bg_ h (fun k h=>Qa hC [.S 15 (.b true),.n 6,.O 607 (.var (Qc (Qg.mk c.2.b true))),.n 1,.K [0,1,5] [607]] rfl ⟨(tc_ k),rfl⟩ ?_) fun k h=>Qa hC [.S 15 (.b false),.n 6,.O 607 (.var (Qc (Qg.mk c.2.b (decide (c.1<0))))),.n 1,.K [0,1,5] [607]] rfl ⟨(tc_ k),rfl⟩ ?_
  ·cases h
   exact AK.met rfl
  cases h
  exact AK.met rfl
 rintro σ rfl
 replace h:Qcu c u=some r:=h
 refine Qa hC [.n 13,.adopt 6 33 11,.O 33 (.arr 11 (([]:List Qe).map Qb)),.S 6 (.own 33 ([]:List Qe).length),.K [0,1,5,6,7] [33,607]] rfl ⟨⟨tt_,rfl⟩,(congrArg (fun n=>V.own 33 n) (by simp))⟩ ?_
 obtain⟨x,l,h⟩:=Qd h
 refine AK.loop (body:=(fun st=>Qd6 c st.1 st.2.1 st.2.2)) (fun st σ=>σ=⟨[(0,.loc 607 0 0),(1,.clo (.func 71) [] []),(5,.I c.1),(6,.own 33 st.2.2.length),(7,.I st.1)],[(33,.arr 11 (st.2.2.map Qb)),(607,.var (Qc st.2.1))]⟩) (fun q e σ=>e=.exit 0∧σ=⟨[(6,.own 33 q.1.length)],[(33,.arr 11 (q.1.map Qb)),(607,.var (Qc q.2))]⟩) l rfl ?_ ?_
 ·rintro ⟨m,i,j⟩ o σ rfl h
  refine tg_ hC [.n 2] rfl ?_
  refine AK.meetX (fun σ=>σ=⟨[(0,.loc 607 0 0),(1,.clo (.func 71) [] []),(5,.I c.1),(6,.own 33 j.length),(7,.I m),(30,.b ((decide (m<c.1))&&(!i.bad)))],[(33,.arr 11 (j.map Qb)),(607,.var (Qc i))]⟩) ?_ ?_
  ·refine tg_ hC [.n 5] rfl ?_
   rcases Qa6 (decide (m<c.1))with a | a
   ·refine Qa hC [.S 24 (.b true),.n 7,.S 30 (.b ((decide (m<c.1))&&(!i.bad))),.K [0,1,5,6,7,30] [33,607]] rfl ⟨(tc_ a),(congrArg V.b (QjD a rfl))⟩ ?_
    exact AK.met rfl
   refine Qa hC [.S 24 (.b false),.n 7,.S 30 (.b ((decide (m<c.1))&&(!i.bad))),.K [0,1,5,6,7,30] [33,607]] rfl ⟨(tc_ a),(congrArg V.b (QjE a rfl))⟩ ?_
   exact AK.met rfl
  rintro σ rfl
  refine tg_ hC [.n 1] rfl ?_
  rcases QB h with⟨f,h⟩|⟨f,h⟩
  ·obtain⟨g,p,h⟩:=Qd h
   obtain⟨s,h⟩:=QaV h
   refine Qa hC [.T,.n 8,.cm (.clo) [(607,607)] [(607,607)] [] [.d] [(607,.var (Qc g.2))] (.agg (Qb g.1)),.v (.bd []) [] (.sl 11 (([g.1]:List Qe).map Qb)),.app ((j++([g.1]:List Qe)).map Qb) (j++([g.1]:List Qe)).length,.n 9,.K [0,1,5,6,7] [33,607]] rfl ⟨⟨⟨⟨tt_,f⟩,(Qjp _ p)⟩,rfl⟩,⟨Qj,QbA s Qj,QaZ,Qcb Qj⟩⟩ ?_
   cases h
   exact QaR rfl rfl
  refine Qa hC [.F,.n 2,.K [6] [33,607]] rfl ⟨tt_,f⟩ ?_
  cases h
  exact QaM rfl (an_ rfl rfl)
 obtain⟨y,z⟩:=x
 replace h:Qd7 y z=some r:=h
 rintro e σ ⟨rfl,rfl⟩
 refine tg_ hC [.n 9,.K [4] [33,607],.ren 33 600] rfl ?_
 cases h
 exact d1_ rfl rfl ⟨rfl,rfl,tt_⟩
def QeF (a:Qg)(c:QbY):Option (Int×QbY):=
 bif (a.bad||(decide (0<(a.b.length:Int))))then
 some (4,(QbY.mk ([]:QMk) ([]:(List Qe)) 0 0))
 else
 some (0,c)
theorem Qg4 (a e){r}(h:QeF a e=some r):Qh prog 72 [.loc 607 0 0,.agg (Qaf e)] [(607,.var (Qc a))] (Qp (.tup [.agg (Qaf r.2),.I r.1]) [(607,.var (Qc a))]):=by
 refine Qh.walk 21 func72 rfl rfl rfl fun C hC=>?_
 refine tg_ hC [.n 9] rfl ?_
 refine AK.meetX (fun σ=>σ=⟨[(3,.loc 3 0 0),(4,.loc 4 0 0),(18,.b (a.bad||(decide (0<(a.b.length:Int)))))],[(3,.var (Qaf e)),(4,.var [.lit (.slice none 0 0),.lit (.slice none 0 0),.I 0,.I 0]),(607,.var (Qc a))]⟩) ?_ ?_
 ·refine tg_ hC [.n 6] rfl ?_
  rcases Qa6 a.bad with c | c
  ·refine Qa hC [.S 11 (.b true),.n 8,.S 18 (.b (a.bad||(decide (0<(a.b.length:Int))))),.K [3,4,18] [3,4,607]] rfl ⟨(tc_ c),(congrArg V.b (orT c rfl))⟩ ?_
   exact AK.met rfl
  refine Qa hC [.S 11 (.b false),.n 4,.o (.ln a.b.length),.n 3,.S 18 (.b (a.bad||(decide (0<(a.b.length:Int))))),.K [3,4,18] [3,4,607]] rfl ⟨⟨(tc_ c),Qj⟩,(congrArg V.b (orF c rfl))⟩ ?_
  exact AK.met rfl
 rintro σ rfl
 refine tg_ hC [.n 1] rfl ?_
 refine bg_ h (fun d h=>Qa hC [.T,.n 7,.v .no [some 1,some 11,none,none] (.agg (Qaf (QbY.mk ([]:QMk) ([]:(List Qe)) 0 0))),.n 1,.O 4 (.var (Qaf (QbY.mk ([]:QMk) ([]:(List Qe)) 0 0))),.n 5,.K [4,5] [4,607]] rfl ⟨⟨⟨tt_,d⟩,rfl⟩,rfl⟩ ?_) fun d h=>Qa hC [.F,.n 4,.v .no [] (.agg (Qaf e)),.n 1,.O 4 (.var (Qaf e)),.n 4,.K [4,5] [4,607]] rfl ⟨⟨⟨tt_,d⟩,rfl⟩,rfl⟩ ?_
 ·cases h
  exact AK.done (ex_ [_,_] (an_ (an_ (ex_ _ (ex_ _ (an_ rfl (an_ rfl (Or.inl (an_ (Qk.ag rfl) (an_ (Qk.sz rfl) rfl))))))) (an_ rfl tt_)) (Qas ⟨rfl,tt_⟩)))
 cases h
 exact AK.done (ex_ [_,_] (an_ (an_ (ex_ _ (ex_ _ (an_ rfl (an_ rfl (Or.inl (an_ (Qk.ag rfl) (an_ (Qk.sz rfl) rfl))))))) (an_ rfl tt_)) (Qas ⟨rfl,tt_⟩)))
def Qgu (e:(List Int)):Option (Int×QbY):=
 (QeC (Qg.mk e false) 0 0).bind fun a=>
 (Qfy a.1).bind fun b=>
 (Qe9 b.2).bind fun c=>
 (QeF c.2 (QbY.mk b.1 c.1 a.2.Next a.2.Now)).bind fun d=>
 some (d.1,d.2)
theorem QiD (e){r}(h:Qgu e=some r):Qh prog 30 [.sl 1 (e.map Qs)] [] (Qp (.tup [.agg (Qaf r.2),.I r.1]) []):=by
 refine Qh.walk 25 func30 rfl rfl rfl fun C hC=>?_
 obtain⟨a,f,h⟩:=Qd h
 obtain⟨b,g,h⟩:=Qd h
 obtain⟨c,i,h⟩:=Qd h
 obtain⟨j,k,h⟩:=Qd h
 refine Qa hC [.n 9,.v .no [] (.agg (Qc (Qg.mk e false))),.n 14,.o (.any (.own 12 2) (some (.var [.loc 5 0 2,.loc 5 0 3]))),.cm (.fn) [(607,8),(608,12),(609,5)] [(8,607),(12,608),(5,609)] [] [.d,.d] [(607,.var (Qc a.1)),(608,.var [.loc 609 0 2,.loc 609 0 3]),(609,.var (Qaf a.2))] (.tup []),.n 5,.cm (.fn) [(607,8)] [(15,600),(8,607)] [] [.d,.d] [(600,.arr 1 (b.1.map Qam)),(607,.var (Qc b.2))] (.own 600 b.1.length),.n 2,.O 5 (.var [.own 15 b.1.length,.sl 11 (a.2.Items.map Qb),.I a.2.Next,.I a.2.Now]),.n 5,.cm (.fn) [(607,8)] [(18,600),(8,607)] [] [.d,.d] [(600,.arr 11 (c.1.map Qb)),(607,.var (Qc c.2))] (.own 600 c.1.length),.n 2,.O 5 (.var [.own 15 b.1.length,.own 18 c.1.length,.I a.2.Next,.I a.2.Now]),.n 6,.frz 15 (b.1.map Qam) [15,21] [5],.frz 18 (c.1.map Qb) [18,21] [5],.cm (.fn) [(607,8)] [(8,607)] [] [.d,.d] [(607,.var (Qc c.2))] (.tup [.agg (Qaf j.2),.I j.1]),.n 3,.O 2 (.var (Qaf j.2)),.n 4,.K [2,3] [2]] rfl ⟨⟨⟨⟨⟨⟨⟨⟨⟨⟨⟨tt_,rfl⟩,(fun σ l m hf=>Stp.buildAny rfl rfl (Qt hC.n rfl) (Qk.es rfl) Qjb rfl (by decide) (by decide) (Qcs l rfl) rfl rfl (hf rfl))⟩,(Qg1 _ _ _ f)⟩,(QhB _ g)⟩,rfl⟩,(Qhq _ i)⟩,rfl⟩,⟨⟨⟨tt_,(QbT Qj)⟩,⟨(QbT Qj),⟨tt_,tt_⟩⟩⟩,⟨(QbT Qj),⟨tt_,tt_⟩⟩⟩⟩,⟨⟨⟨tt_,(QbT Qj)⟩,⟨(QbT Qj),tt_⟩⟩,⟨(QbT Qj),tt_⟩⟩⟩,(Qg4 _ _ k)⟩,rfl⟩ ?_
 cases h
 exact AK.done (ex_ [_,_] (an_ (an_ (ex_ _ (ex_ _ (an_ rfl (an_ rfl (Or.inl (an_ (Qk.ag rfl) (an_ (Qk.sz rfl) rfl))))))) (an_ rfl tt_)) (Qas tt_)))
def QfU (a:Qe)(b:Int):Option Bool:=
 some (a.Id==b)
theorem Qkh (c a){r}(h:QfU c a=some r):Qh prog 43 [.agg (Qb c),.loc 607 0 0] [(607,.var (Qr a))] (Qp (.b r) [(607,.var (Qr a))]):=by
 refine Qh.walk 8 func43 rfl rfl rfl fun C hC=>?_
 refine tg_ hC [.n 16] rfl ?_
 cases h
 exact d1_ rfl rfl ⟨rfl,tt_⟩
def QD (c:(List Qe))(d:Int)(a:Int):Option (Int⊕(Int⊕Unit)):=
 bif (decide (a<(c.length:Int)))then
 (idx c a).bind fun e=>
 (QfU e d).bind fun b=>
 bif b then
 some (.inr (.inl a))
 else
 some (.inl (w64 (a+1)))
 else
 some (.inr (.inr ()))
def Qbb (a:Int):Option Int:=
 some a
def Qbc : Option Int:=
 some (-1)
def QaW (a:(List Qe))(b:Int):Option Int:=
 (QK (fun st=>QD a b st) 0).bind (Sum.elim (fun q=>Qbb q) (fun q=>Qbc))
theorem Qc7 (g c){r}(h:QaW g c=some r):Qh prog 37 [.sl 11 (g.map Qb),.clo (.func 43) [] [.loc 607 0 0]] [(607,.var (Qr c))] (Qp (.I r) [(607,.var (Qr c))]):=by
 refine Qh.walk 19 func37 rfl rfl rfl fun C hC=>?_
 refine Qa hC [.n 9,.o (.ln g.length),.n 4,.K [0,1,7,8] [607]] rfl ⟨tt_,Qj⟩ ?_
 obtain⟨k,i,h⟩:=Qd h
 refine AK.loop (body:=(fun st=>QD g c st)) (fun st σ=>σ=⟨[(0,.sl 11 (g.map Qb)),(1,.clo (.func 43) [] [.loc 607 0 0]),(7,.I (g.length:Int)),(8,.I st)],[(607,.var (Qr c))]⟩) (Sum.elim (fun q e σ=>e=.ret∧σ=⟨[(4,.I q)],[(607,.var (Qr c))]⟩) (fun q e σ=>e=.exit 0∧σ=⟨[],[(607,.var (Qr c))]⟩)) i rfl ?_ ?_
 ·rintro t o σ rfl h
  refine tg_ hC [.n 6] rfl ?_
  rcases QB h with⟨f,h⟩|⟨f,h⟩
  ·obtain⟨p,l,h⟩:=Qd h
   obtain⟨m,j,h⟩:=Qd h
   refine Qa hC [.T,.n 15,.o (.row (Qb p)),.v .no [] (.agg (Qb p)),.cm (.clo) [(607,607)] [(607,607)] [] [.d,.d] [(607,.var (Qr c))] (.b m),.n 2] rfl ⟨⟨⟨⟨tt_,f⟩,(Qar l)⟩,rfl⟩,(Qkh _ _ j)⟩ ?_
   refine bg_ h (fun a h=>Qa hC [.T,.n 9,.K [4] [607]] rfl ⟨tt_,a⟩ ?_) fun a h=>Qa hC [.F,.n 7,.K [0,1,7,8] [607]] rfl ⟨tt_,a⟩ ?_
   ·cases h
    exact QfS rfl (an_ rfl rfl)
   cases h
   exact QaR rfl rfl
  refine Qa hC [.F,.n 2,.K [] [607]] rfl ⟨tt_,f⟩ ?_
  cases h
  exact QaM rfl (an_ rfl rfl)
 rcases k with(s | _)
 ·replace h:Qbb s=some r:=h
  rintro e σ ⟨rfl,rfl⟩
  refine tg_ hC [.n 2] rfl ?_
  cases h
  exact d1_ rfl rfl ⟨rfl,tt_⟩
 replace h:Qbc=some r:=h
 rintro e σ ⟨rfl,rfl⟩
 refine tg_ hC [.n 8] rfl ?_
 cases h
 exact d1_ rfl rfl ⟨rfl,tt_⟩
def Qc8 (b:(List Qe))(a:Int):Option Int:=
 (QaW b a).bind fun c=>
 some c
theorem QcS (c a){r}(h:Qc8 c a=some r):Qh prog 16 [.sl 11 (c.map Qb),.I a] [] (Qp (.I r) []):=by
 refine Qh.walk 8 func16 rfl rfl rfl fun C hC=>?_
 obtain⟨e,b,h⟩:=Qd h
 refine Qa hC [.n 10,.cm (.fn) [(607,3)] [(3,607)] [] [.d,.d] [(607,.var (Qr a))] (.I e),.n 4] rfl ⟨tt_,(Qc7 _ _ b)⟩ ?_
 cases h
 exact d1_ rfl rfl tt_
def Qik  : Option ((List (Int×(Option Nat)))×(List Qf)):=
 some (([]:(List (Int×(Option Nat)))),([]:List Qf))
theorem QlB (gA:Nat→Nat)  {r:((List (Int×(Option Nat)))×(List Qf))}(h:Qik  = some r):Qh prog 44 [] [] (Qp (.loc 3 0 0) [(1,.map (QF V.I (QL gA) r.1)),(3,.var [.lit (.slice none 0 0),.map 1]),(601,.tbl gA 3 (r.2.map Qi))]):=by
 refine Qh.walk 4 func44 rfl rfl rfl fun C hC=>?_
 refine tg_ hC [.n 7] rfl ?_
 refine AK.newTbl 601 3 gA rfl rfl ?_
 refine Qa hC [.O 601 (.tbl gA 3 (([]:List Qf).map Qi)),.n 1,.O 1 (.map (QF V.I (QL gA) ([]:(List (Int×(Option Nat)))))),.v .no [] (.agg [.lit (.slice none 0 0),.map 1]),.n 5] rfl ⟨⟨⟨tt_,rfl⟩,rfl⟩,rfl⟩ ?_
 cases h
 exact d1_ rfl rfl ⟨rfl,rfl,rfl,tt_⟩
def Qb5 (a:(List (Option Nat)))(b:(List (Int×(Option Nat))))(c:(List Qf)):Option Int:=
 some (a.length:Int)
theorem Qfz (gA:Nat→Nat)(a:(List (Option Nat)))(b:(List (Int×(Option Nat))))(c:(List Qf)){r:Int}(h:Qb5 a b c=some r):Qh prog 84 [.loc 607 0 0] [(607,.var [.own 605 a.length,.map 608]),(605,.arr 1 (a.map (QA gA))),(608,.map (QF V.I (QL gA) b)),(609,.tbl gA 3 (c.map Qi))] (Qp (.I r) [(605,.arr 1 (a.map (QA gA))),(607,.var [.own 605 a.length,.map 608]),(608,.map (QF V.I (QL gA) b)),(609,.tbl gA 3 (c.map Qi))]):=by
 refine Qh.walk 8 func84 rfl rfl rfl fun C hC=>?_
 refine tg_ hC [.n 16] rfl ?_
 cases h
 exact d1_ rfl rfl ⟨rfl,rfl,rfl,rfl,tt_⟩
def Qdq (a:(List (Option Nat)))(f:(List (Int×(Option Nat))))(b:(Option Nat))(c:(List Qf)):Option ((List (Option Nat))×(List Qf)):=
 (b).bind fun d=>
 (c[d]?).bind fun e=>
 (chk (decide (a.length+([b]:List (Option Nat)).length≤4294967296))).bind fun _=>
 some ((a++([b]:List (Option Nat))),(c.set d (Qf.mk e.id e.at_ (a.length:Int))))
theorem QhC (gA:Nat→Nat)(a:(List (Option Nat)))(d:(List (Int×(Option Nat))))(c:(Option Nat))(e:(List Qf)){r:((List (Option Nat))×(List Qf))}(h:Qdq a d c e=some r):Qh prog 128 [.loc 607 0 0,.ifc 116 (QL gA c)] [(607,.var [.own 605 a.length,.map 608]),(605,.arr 1 (a.map (QA gA))),(608,.map (QF V.I (QL gA) d)),(609,.tbl gA 3 (e.map Qi))] (Qp (.tup []) [(605,.arr 1 (r.1.map (QA gA))),(607,.var [.own 605 r.1.length,.map 608]),(608,.map (QF V.I (QL gA) d)),(609,.tbl gA 3 (r.2.map Qi))]):=by
 refine Qh.walk 22 func128 rfl rfl rfl fun C hC=>?_
 obtain⟨f,g,h⟩:=Qd h
 obtain⟨l,i,h⟩:=Qd h
 obtain⟨j,h⟩:=QaV h
 refine Qa hC [.n 14,.o (.any (QaS gA 0 f) none),.o (.any (QaS gA 2 f) none),.x (fun σ=>σ.set 609 (.tbl gA 3 ((e.set f (Qf.mk l.id l.at_ (a.length:Int))).map Qi))),.n 8,.v (.bd []) [] (.sl 1 (([c]:List (Option Nat)).map (QA gA))),.app ((a++([c]:List (Option Nat))).map (QA gA)) (a++([c]:List (Option Nat))).length,.n 2,.O 607 (.var [.own 605 (a++([c]:List (Option Nat))).length,.map 608]),.n 1,.K [] [605,607,608,609]] rfl ⟨⟨⟨⟨⟨⟨tt_,(fun σ k m _=>Stp.nilCheckP rfl rfl (Qt hC.n rfl) (k _ _ rfl) g)⟩,(fun σ k m _=>Stp.fieldP rfl rfl (Qt hC.n rfl) (k _ _ rfl) (Qk.fo rfl rfl) rfl)⟩,(Stp.storeP (b:=609) rfl rfl rfl rfl (QS i) rfl rfl rfl rfl (Qk.sz rfl) (QjC rfl))⟩,rfl⟩,⟨Qj,QbA j Qj,QaZ,Qcb Qj⟩⟩,rfl⟩ ?_
 cases h
 refine AK.done ?_
 exact ex_ [] (an_ tt_ (Qas ⟨rfl,rfl,rfl,rfl,tt_⟩))
def Qa5 (a:(List (Option Nat)))(b:(List Qf)):Option Int:=
 some (a.length:Int)
theorem QeG (gA:Nat→Nat)(a:(List (Option Nat)))(b:(List Qf)){r:Int}(h:Qa5 a b=some r):Qh prog 124 [.own 607 a.length] [(607,.arr 1 (a.map (QA gA))),(608,.tbl gA 3 (b.map Qi))] (Qp (.I r) [(607,.arr 1 (a.map (QA gA))),(608,.tbl gA 3 (b.map Qi))]):=by
 refine Qh.walk 5 func124 rfl rfl rfl fun C hC=>?_
 refine tg_ hC [.n 13] rfl ?_
 cases h
 exact d1_ rfl rfl ⟨rfl,rfl,tt_⟩
def Qes (a:(List (Option Nat)))(c:Int)(b:(List Qf))(d:Int):Option Bool:=
 (idx a c).bind fun u=>
 (u).bind fun v=>
 (b[v]?).bind fun e=>
 (idx a d).bind fun f=>
 (f).bind fun g=>
 (b[g]?).bind fun h=>
 bif (decide (e.at_<h.at_))then
 some true
 else
 (idx a c).bind fun i=>
 (i).bind fun j=>
 (b[j]?).bind fun k=>
 (idx a d).bind fun l=>
 (l).bind fun m=>
 (b[m]?).bind fun n=>
 bif (k.at_==n.at_)then
 (idx a c).bind fun o=>
 (o).bind fun p=>
 (b[p]?).bind fun q=>
 (idx a d).bind fun r=>
 (r).bind fun s=>
 (b[s]?).bind fun t=>
 some (decide (q.id<t.id))
 else
 some false
def Qbx (a:Bool):Option Bool:=
 some a
def Qa3 (a:(List (Option Nat)))(b:Int)(c:Int)(d:(List Qf)):Option Bool:=
 (Qes a b d c).bind (fun e=>Qbx e)
theorem QcJ (gA:Nat→Nat)(H:(List (Option Nat)))(i2:Int)(k3:Int)(Y:(List Qf)){r:Bool}(h:Qa3 H i2 k3 Y=some r):Qh prog 125 [.own 607 H.length,.I i2,.I k3] [(607,.arr 1 (H.map (QA gA))),(608,.tbl gA 3 (Y.map Qi))] (Qp (.b r) [(607,.arr 1 (H.map (QA gA))),(608,.tbl gA 3 (Y.map Qi))]):=by
 refine Qh.walk 56 func125 rfl rfl rfl fun C hC=>?_
 refine tg_ hC [.n 6] rfl ?_
 obtain⟨Z,a0,h⟩:=Qd h
 replace h:Qbx Z=some r:=h
 refine AK.meetX (fun σ=>σ=⟨[(6,.b Z)],[(607,.arr 1 (H.map (QA gA))),(608,.tbl gA 3 (Y.map Qi))]⟩) ?_ ?_
 ·replace h:=a0
  obtain⟨e8,j,h⟩:=Qd h
  obtain⟨G,B,h⟩:=Qd h
  obtain⟨D,l,h⟩:=Qd h
  obtain⟨E,e,h⟩:=Qd h
  obtain⟨k,o,h⟩:=Qd h
  obtain⟨F,p,h⟩:=Qd h
  refine tg_ hC [.K [0,1,2,6] [607,608]] rfl ?_
  rcases QB h with⟨f,h⟩|⟨f,h⟩
  ·refine AK.draw2 Qk hC mixed [.N,.N,.N,.a (.row ((QA gA) e8)) none false,.a (.any (QaS gA 0 G) none) none false,.a (.any (QaS gA 1 G) none) none false,.a (.any (.I D.at_) none) none false,.N,.N,.N,.a (.row ((QA gA) E)) none false,.a (.any (QaS gA 0 k) none) none false,.a (.any (QaS gA 1 k) none) none false,.a (.any (.I F.at_) none) none false,.N,.a .no (some ([],.b true)) false,.N,.N,.N,.N,.N,.N,.N,.N,.N,.N,.N,.N,.N,.N,.N,.N,.N,.N,.N,.N,.N,.N,.N,.N,.N,.N,.N,.N,.N,.N,.N,.N,.N,.m .s] [] [] [6] [607,608] rfl rfl rfl ⟨⟨⟨⟨⟨⟨⟨⟨⟨⟨⟨tt_,(Qbm j rfl)⟩,(QS (Qbk j).2)⟩,(fun σ c d _=>Stp.nilCheckP rfl rfl (Qt hC.n rfl) (c _ _ rfl) B)⟩,(fun σ c d _=>Stp.fieldP rfl rfl (Qt hC.n rfl) (c _ _ rfl) (Qk.fo rfl rfl) rfl)⟩,(fun σ c d _=>Stp.loadP (b:=608) rfl rfl (Qt hC.n rfl) (c _ _ rfl) (d _ _ rfl) (Qk.ag rfl) (QS l) rfl)⟩,(Qbm e rfl)⟩,(QS (Qbk e).2)⟩,(fun σ c d _=>Stp.nilCheckP rfl rfl (Qt hC.n rfl) (c _ _ rfl) o)⟩,(fun σ c d _=>Stp.fieldP rfl rfl (Qt hC.n rfl) (c _ _ rfl) (Qk.fo rfl rfl) rfl)⟩,(fun σ c d _=>Stp.loadP (b:=608) rfl rfl (Qt hC.n rfl) (c _ _ rfl) (d _ _ rfl) (Qk.ag rfl) (QS p) rfl)⟩,(cb_ f)⟩ rfl (by kernel_rfl) rfl rfl rfl ?_
   refine tg_ hC [.K [6] [607,608]] rfl ?_
   cases h
   exact AK.met rfl
  obtain⟨J,g,h⟩:=Qd h
  obtain⟨t,v,h⟩:=Qd h
  obtain⟨L,w,h⟩:=Qd h
  obtain⟨M,i,h⟩:=Qd h
  obtain⟨u,x,h⟩:=Qd h
  obtain⟨O,y,h⟩:=Qd h
  rcases QB h with⟨q,h⟩|⟨q,h⟩
  ·obtain⟨a1,z,h⟩:=Qd h
   obtain⟨P,S,h⟩:=Qd h
   obtain⟨a2,T,h⟩:=Qd h
   obtain⟨a3,A,h⟩:=Qd h
   obtain⟨U,W,h⟩:=Qd h
   obtain⟨a4,X,h⟩:=Qd h
   refine AK.draw2 Qk hC mixed [.N,.N,.N,.a (.row ((QA gA) e8)) none false,.a (.any (QaS gA 0 G) none) none false,.a (.any (QaS gA 1 G) none) none false,.a (.any (.I D.at_) none) none false,.N,.N,.N,.a (.row ((QA gA) E)) none false,.a (.any (QaS gA 0 k) none) none false,.a (.any (QaS gA 1 k) none) none false,.a (.any (.I F.at_) none) none false,.N,.a .no (some ([],.b false)) false,.N,.N,.N,.a (.row ((QA gA) J)) none false,.a (.any (QaS gA 0 t) none) none false,.a (.any (QaS gA 1 t) none) none false,.a (.any (.I L.at_) none) none false,.N,.N,.N,.a (.row ((QA gA) M)) none false,.a (.any (QaS gA 0 u) none) none false,.a (.any (QaS gA 1 u) none) none false,.a (.any (.I O.at_) none) none false,.N,.a .no (some ([],.b true)) false,.N,.N,.N,.a (.row ((QA gA) a1)) none false,.a (.any (QaS gA 0 P) none) none false,.a (.any (QaS gA 0 P) none) none false,.a (.any (.I a2.id) none) none false,.N,.N,.N,.a (.row ((QA gA) a3)) none false,.a (.any (QaS gA 0 U) none) none false,.a (.any (QaS gA 0 U) none) none false,.a (.any (.I a4.id) none) none false,.N,.N,.N,.m .s] [] [] [6] [607,608] rfl rfl rfl ⟨⟨⟨⟨⟨⟨⟨⟨⟨⟨⟨⟨⟨⟨⟨⟨⟨⟨⟨⟨⟨⟨⟨⟨⟨⟨⟨⟨⟨⟨⟨⟨tt_,(Qbm j rfl)⟩,(QS (Qbk j).2)⟩,(fun σ c d _=>Stp.nilCheckP rfl rfl (Qt hC.n rfl) (c _ _ rfl) B)⟩,(fun σ c d _=>Stp.fieldP rfl rfl (Qt hC.n rfl) (c _ _ rfl) (Qk.fo rfl rfl) rfl)⟩,(fun σ c d _=>Stp.loadP (b:=608) rfl rfl (Qt hC.n rfl) (c _ _ rfl) (d _ _ rfl) (Qk.ag rfl) (QS l) rfl)⟩,(Qbm e rfl)⟩,(QS (Qbk e).2)⟩,(fun σ c d _=>Stp.nilCheckP rfl rfl (Qt hC.n rfl) (c _ _ rfl) o)⟩,(fun σ c d _=>Stp.fieldP rfl rfl (Qt hC.n rfl) (c _ _ rfl) (Qk.fo rfl rfl) rfl)⟩,(fun σ c d _=>Stp.loadP (b:=608) rfl rfl (Qt hC.n rfl) (c _ _ rfl) (d _ _ rfl) (Qk.ag rfl) (QS p) rfl)⟩,(cb_ f)⟩,(Qbm g rfl)⟩,(QS (Qbk g).2)⟩,(fun σ c d _=>Stp.nilCheckP rfl rfl (Qt hC.n rfl) (c _ _ rfl) v)⟩,(fun σ c d _=>Stp.fieldP rfl rfl (Qt hC.n rfl) (c _ _ rfl) (Qk.fo rfl rfl) rfl)⟩,(fun σ c d _=>Stp.loadP (b:=608) rfl rfl (Qt hC.n rfl) (c _ _ rfl) (d _ _ rfl) (Qk.ag rfl) (QS w) rfl)⟩,(Qbm i rfl)⟩,(QS (Qbk i).2)⟩,(fun σ c d _=>Stp.nilCheckP rfl rfl (Qt hC.n rfl) (c _ _ rfl) x)⟩,(fun σ c d _=>Stp.fieldP rfl rfl (Qt hC.n rfl) (c _ _ rfl) (Qk.fo rfl rfl) rfl)⟩,(fun σ c d _=>Stp.loadP (b:=608) rfl rfl (Qt hC.n rfl) (c _ _ rfl) (d _ _ rfl) (Qk.ag rfl) (QS y) rfl)⟩,(cb_ q)⟩,(Qbm z rfl)⟩,(QS (Qbk z).2)⟩,(fun σ c d _=>Stp.nilCheckP rfl rfl (Qt hC.n rfl) (c _ _ rfl) S)⟩,(fun σ c d _=>Stp.fieldP rfl rfl (Qt hC.n rfl) (c _ _ rfl) (Qk.fo rfl rfl) rfl)⟩,(fun σ c d _=>Stp.loadP (b:=608) rfl rfl (Qt hC.n rfl) (c _ _ rfl) (d _ _ rfl) (Qk.ag rfl) (QS T) rfl)⟩,(Qbm A rfl)⟩,(QS (Qbk A).2)⟩,(fun σ c d _=>Stp.nilCheckP rfl rfl (Qt hC.n rfl) (c _ _ rfl) W)⟩,(fun σ c d _=>Stp.fieldP rfl rfl (Qt hC.n rfl) (c _ _ rfl) (Qk.fo rfl rfl) rfl)⟩,(fun σ c d _=>Stp.loadP (b:=608) rfl rfl (Qt hC.n rfl) (c _ _ rfl) (d _ _ rfl) (Qk.ag rfl) (QS X) rfl)⟩ rfl (by kernel_rfl) rfl rfl rfl ?_
   refine tg_ hC [.K [6] [607,608]] rfl ?_
   cases h
   exact AK.met rfl
  refine AK.draw2 Qk hC mixed [.N,.N,.N,.a (.row ((QA gA) e8)) none false,.a (.any (QaS gA 0 G) none) none false,.a (.any (QaS gA 1 G) none) none false,.a (.any (.I D.at_) none) none false,.N,.N,.N,.a (.row ((QA gA) E)) none false,.a (.any (QaS gA 0 k) none) none false,.a (.any (QaS gA 1 k) none) none false,.a (.any (.I F.at_) none) none false,.N,.a .no (some ([],.b false)) false,.N,.N,.N,.a (.row ((QA gA) J)) none false,.a (.any (QaS gA 0 t) none) none false,.a (.any (QaS gA 1 t) none) none false,.a (.any (.I L.at_) none) none false,.N,.N,.N,.a (.row ((QA gA) M)) none false,.a (.any (QaS gA 0 u) none) none false,.a (.any (QaS gA 1 u) none) none false,.a (.any (.I O.at_) none) none false,.N,.a .no (some ([],.b false)) false,.N,.N,.N,.N,.N,.N,.N,.N,.N,.N,.N,.N,.N,.N,.N,.N,.N,.m .s] [] [] [6] [607,608] rfl rfl rfl ⟨⟨⟨⟨⟨⟨⟨⟨⟨⟨⟨⟨⟨⟨⟨⟨⟨⟨⟨⟨⟨⟨tt_,(Qbm j rfl)⟩,(QS (Qbk j).2)⟩,(fun σ c d _=>Stp.nilCheckP rfl rfl (Qt hC.n rfl) (c _ _ rfl) B)⟩,(fun σ c d _=>Stp.fieldP rfl rfl (Qt hC.n rfl) (c _ _ rfl) (Qk.fo rfl rfl) rfl)⟩,(fun σ c d _=>Stp.loadP (b:=608) rfl rfl (Qt hC.n rfl) (c _ _ rfl) (d _ _ rfl) (Qk.ag rfl) (QS l) rfl)⟩,(Qbm e rfl)⟩,(QS (Qbk e).2)⟩,(fun σ c d _=>Stp.nilCheckP rfl rfl (Qt hC.n rfl) (c _ _ rfl) o)⟩,(fun σ c d _=>Stp.fieldP rfl rfl (Qt hC.n rfl) (c _ _ rfl) (Qk.fo rfl rfl) rfl)⟩,(fun σ c d _=>Stp.loadP (b:=608) rfl rfl (Qt hC.n rfl) (c _ _ rfl) (d _ _ rfl) (Qk.ag rfl) (QS p) rfl)⟩,(cb_ f)⟩,(Qbm g rfl)⟩,(QS (Qbk g).2)⟩,(fun σ c d _=>Stp.nilCheckP rfl rfl (Qt hC.n rfl) (c _ _ rfl) v)⟩,(fun σ c d _=>Stp.fieldP rfl rfl (Qt hC.n rfl) (c _ _ rfl) (Qk.fo rfl rfl) rfl)⟩,(fun σ c d _=>Stp.loadP (b:=608) rfl rfl (Qt hC.n rfl) (c _ _ rfl) (d _ _ rfl) (Qk.ag rfl) (QS w) rfl)⟩,(Qbm i rfl)⟩,(QS (Qbk i).2)⟩,(fun σ c d _=>Stp.nilCheckP rfl rfl (Qt hC.n rfl) (c _ _ rfl) x)⟩,(fun σ c d _=>Stp.fieldP rfl rfl (Qt hC.n rfl) (c _ _ rfl) (Qk.fo rfl rfl) rfl)⟩,(fun σ c d _=>Stp.loadP (b:=608) rfl rfl (Qt hC.n rfl) (c _ _ rfl) (d _ _ rfl) (Qk.ag rfl) (QS y) rfl)⟩,(cb_ q)⟩ rfl (by kernel_rfl) rfl rfl rfl ?_
  refine tg_ hC [.K [6] [607,608]] rfl ?_
  cases h
  exact AK.met rfl
 rintro σ rfl
 replace h:Qbx Z=some r:=h
 refine tg_ hC [.n 2] rfl ?_
 cases h
 exact d1_ rfl rfl ⟨rfl,rfl,tt_⟩
def QaT (c:(List (Option Nat)))(a:Int)(d:Int)(i:(List Qf)):Option ((List (Option Nat))×(List Qf)):=
 (idx c d).bind fun h=>
 (idx c a).bind fun j=>
 (idx c a).bind fun n=>
 (idx (c.set a.toNat h) d).bind fun m=>
 (idx ((c.set a.toNat h).set d.toNat j) a).bind fun k=>
 (idx ((c.set a.toNat h).set d.toNat j) d).bind fun l=>
 (k).bind fun e=>
 (i[e]?).bind fun b=>
 (l).bind fun f=>
 ((i.set e (Qf.mk b.id b.at_ a))[f]?).bind fun g=>
 some (((c.set a.toNat h).set d.toNat j),((i.set e (Qf.mk b.id b.at_ a)).set f (Qf.mk g.id g.at_ d)))
theorem QcK (gA:Nat→Nat)(o:(List (Option Nat)))(l:Int)(y:Int)(z:(List Qf)){r:((List (Option Nat))×(List Qf))}(h:QaT o l y z=some r):Qh prog 126 [.own 607 o.length,.I l,.I y] [(607,.arr 1 (o.map (QA gA))),(608,.tbl gA 3 (z.map Qi))] (Qp (.tup []) [(607,.arr 1 (r.1.map (QA gA))),(608,.tbl gA 3 (r.2.map Qi))]):=by
 refine Qh.walk 34 func126 rfl rfl rfl fun C hC=>?_
 obtain⟨A,p,h⟩:=Qd h
 obtain⟨F,q,h⟩:=Qd h
 obtain⟨G,s,h⟩:=Qd h
 obtain⟨B,f,h⟩:=Qd h
 refine tg_ hC [.n 1,.K [0,1,2] [607,608]] rfl ?_
 refine AK.draw2 Qk hC mixed [.N,.N,.a .no none true,.a .no none true,.N,.N,.N,.a (.row ((QA gA) A)) none false,.N,.N,.N,.a (.row ((QA gA) F)) none false,.N,.m (.st ((QA gA) G) ((o.set l.toNat A).map (QA gA))),.N,.m (.st ((QA gA) B) (((o.set l.toNat A).set y.toNat F).map (QA gA)))] [0,1,2] [608] [0,1,2] [607,608] rfl rfl rfl ⟨⟨⟨⟨⟨⟨⟨⟨tt_,(Qbm p rfl)⟩,(QS (Qbk p).2)⟩,(Qbm q rfl)⟩,(QS (Qbk q).2)⟩,(Qbm s rfl)⟩,⟨(QS (Qbk s).2),QjC rfl⟩⟩,(Qbm f (by simp))⟩,⟨(QS (Qbk f).2),QjC rfl⟩⟩ rfl (by kernel_rfl) rfl rfl rfl ?_
 obtain⟨D,g,h⟩:=Qd h
 obtain⟨E,i,h⟩:=Qd h
 obtain⟨d,t,h⟩:=Qd h
 obtain⟨e,u,h⟩:=Qd h
 obtain⟨j,v,h⟩:=Qd h
 obtain⟨w,x,h⟩:=Qd h
 refine tg_ hC [.n 1,.K [0,1,2] [607,608]] rfl ?_
 refine AK.draw2 Qk hC mixed [.N,.N,.N,.a (.row ((QA gA) D)) none false,.N,.N,.N,.a (.row ((QA gA) E)) none false,.N,.a .no none true,.a (.any (QaS gA 0 d) none) none false,.a (.any (QaS gA 2 d) none) none false,.m (.any ⟨[],[(608,.tbl gA 3 ((z.set d (Qf.mk e.id e.at_ l)).map Qi))],none⟩),.a (.any (QaS gA 0 j) none) none false,.a (.any (QaS gA 2 j) none) none false,.m (.any ⟨[],[(608,.tbl gA 3 (((z.set d (Qf.mk e.id e.at_ l)).set j (Qf.mk w.id w.at_ y)).map Qi))],none⟩)] [0,1,2] [607] [] [607,608] rfl rfl rfl ⟨⟨⟨⟨⟨⟨⟨⟨⟨⟨tt_,(Qbm g (by simp))⟩,(QS (Qbk g).2)⟩,(Qbm i (by simp))⟩,(QS (Qbk i).2)⟩,(fun σ c k _=>Stp.nilCheckP rfl rfl (Qt hC.n rfl) (c _ _ rfl) t)⟩,(fun σ c k _=>Stp.fieldP rfl rfl (Qt hC.n rfl) (c _ _ rfl) (Qk.fo rfl rfl) rfl)⟩,(fun σ c k=>Stp.storeP (b:=608) rfl rfl (c _ _ rfl) (k _ _ rfl) (QS u) rfl (c _ _ rfl) rfl rfl (Qk.sz rfl) (QjC rfl))⟩,(fun σ c k _=>Stp.nilCheckP rfl rfl (Qt hC.n rfl) (c _ _ rfl) v)⟩,(fun σ c k _=>Stp.fieldP rfl rfl (Qt hC.n rfl) (c _ _ rfl) (Qk.fo rfl rfl) rfl)⟩,(fun σ c k=>Stp.storeP (b:=608) rfl rfl (c _ _ rfl) (k _ _ rfl) (QS x) rfl (c _ _ rfl) rfl rfl (Qk.sz rfl) (QjC rfl))⟩ rfl (by kernel_rfl) rfl rfl rfl ?_
 refine tg_ hC [.K [] [607,608]] rfl ?_
 cases h
 refine AK.done ?_
 exact ex_ [] (an_ tt_ (Qas ⟨rfl,rfl,tt_⟩))
def QeH (a:Int)(b:(List (Option Nat)))(d:(List Qf)):Option Bool:=
 bif ((w64 (Int.tdiv (w64 (a-1)) 2))==a)then
 some true
 else
 (Qa3 b a (w64 (Int.tdiv (w64 (a-1)) 2)) d).bind fun c=>
 some (!c)
def QbO (e:(List Qf))(a:(List (Option Nat)))(c:Int)(d:Bool):Option ((Int×(List Qf)×(List (Option Nat)))⊕((List Qf)×(List (Option Nat)))):=
 bif d then
 some (.inr (e,a))
 else
 (QaT a (w64 (Int.tdiv (w64 (c-1)) 2)) c e).bind fun b=>
 (chk (decide (b.1.length=a.length))).bind fun _=>
 some (.inl ((w64 (Int.tdiv (w64 (c-1)) 2)),b.2,b.1))
def Qa7 (c:Int)(d:(List Qf))(a:(List (Option Nat))):Option ((Int×(List Qf)×(List (Option Nat)))⊕((List Qf)×(List (Option Nat)))):=
 (QeH c a d).bind (fun b=>QbO d a c b)
def QeI (a:(List Qf))(b:(List (Option Nat))):Option ((List (Option Nat))×(List Qf)):=
 some (b,a)
def QdJ (a:(List (Option Nat)))(d:(List (Int×(Option Nat))))(b:Int)(c:(List Qf)):Option ((List (Option Nat))×(List Qf)):=
 (QK (fun st=>Qa7 st.1 st.2.1 st.2.2) (b,c,a)).bind (fun q=>QeI q.1 q.2)
theorem Qil (gA:Nat→Nat)(v:(List (Option Nat)))(j:(List (Int×(Option Nat))))(A:Int)(B:(List Qf)){r:((List (Option Nat))×(List Qf))}(h:QdJ v j A B=some r):Qh prog 104 [.ifc 120 (.loc 607 0 0),.I A] [(607,.var [.own 605 v.length,.map 608]),(605,.arr 1 (v.map (QA gA))),(608,.map (QF V.I (QL gA) j)),(609,.tbl gA 3 (B.map Qi))] (Qp (.tup []) [(605,.arr 1 (r.1.map (QA gA))),(607,.var [.own 605 r.1.length,.map 608]),(608,.map (QF V.I (QL gA) j)),(609,.tbl gA 3 (r.2.map Qi))]):=by
 refine Qh.walk 23 func104 rfl rfl rfl fun C hC=>?_
 refine tg_ hC [.n 1,.K [0,1] [605,607,608,609]] rfl ?_
 obtain⟨w,k,h⟩:=Qd h
 refine AK.loop (body:=(fun st=>Qa7 st.1 st.2.1 st.2.2)) (fun st σ=>σ=⟨[(0,.ifc 120 (.loc 607 0 0)),(1,.I st.1)],[(605,.arr 1 (st.2.2.map (QA gA))),(607,.var [.own 605 st.2.2.length,.map 608]),(608,.map (QF V.I (QL gA) j)),(609,.tbl gA 3 (st.2.1.map Qi))]⟩) (fun q e σ=>e=.exit 0∧σ=⟨[],[(605,.arr 1 (q.2.map (QA gA))),(607,.var [.own 605 q.2.length,.map 608]),(608,.map (QF V.I (QL gA) j)),(609,.tbl gA 3 (q.1.map Qi))]⟩) k rfl ?_ ?_
 ·rintro ⟨t,u,a⟩ o σ rfl h
  refine Qa hC [.n 11] rfl ⟨tt_,(by decide)⟩ ?_
  obtain⟨g,l,h⟩:=Qd h
  replace h:QbO u a t g=some o:=h
  refine AK.meetX (fun σ=>σ=⟨[(0,.ifc 120 (.loc 607 0 0)),(1,.I t),(4,.I (w64 (Int.tdiv (w64 (t-1)) 2))),(17,.b g)],[(605,.arr 1 (a.map (QA gA))),(607,.var [.own 605 a.length,.map 608]),(608,.map (QF V.I (QL gA) j)),(609,.tbl gA 3 (u.map Qi))]⟩) ?_ ?_
  ·replace h:=l
   refine tg_ hC [.n 5] rfl ?_
   rcases QB h with⟨c,h⟩|⟨c,h⟩
   ·refine Qa hC [.S 11 (.b true),.n 7,.K [0,1,4,17] [605,607,608,609]] rfl (tc_ c) ?_
    cases h
    exact AK.met rfl
   obtain⟨x,m,h⟩:=Qd h
   refine Qa hC [.S 11 (.b false),.n 3,.cm (.mv 125 113) [(607,605),(608,609)] [(605,607),(609,608)] [] [.d,.d,.d] [(607,.arr 1 (a.map (QA gA))),(608,.tbl gA 3 (u.map Qi))] (.b x),.n 3,.K [0,1,4,17] [605,607,608,609]] rfl ⟨⟨(tc_ c),Qif⟩,(QcJ gA _ _ _ _ m)⟩ ?_
   cases h
   exact AK.met rfl
  rintro σ rfl
  replace h:QbO u a t g=some o:=h
  refine tg_ hC [.n 1] rfl ?_
  rcases QB h with⟨f,h⟩|⟨f,h⟩
  ·refine Qa hC [.T,.n 3,.K [] [605,607,608,609]] rfl ⟨tt_,f⟩ ?_
   cases h
   exact QaM rfl (an_ rfl rfl)
  obtain⟨i,p,h⟩:=Qd h
  obtain⟨s,h⟩:=QaV h
  refine Qa hC [.F,.n 7,.cm (.mv 126 113) [(607,605),(608,609)] [(605,607),(609,608)] [] [.d,.d,.d] [(607,.arr 1 (i.1.map (QA gA))),(608,.tbl gA 3 (i.2.map Qi))] (.tup []),.O 607 (.var [.own 605 i.1.length,.map 608]),.n 7,.K [0,1] [605,607,608,609]] rfl ⟨⟨⟨⟨tt_,f⟩,Qig⟩,(QcK gA _ _ _ _ p)⟩,(by simp [Qal s])⟩ ?_
  cases h
  exact QaR rfl rfl
 obtain⟨y,z⟩:=w
 replace h:QeI y z=some r:=h
 rintro e σ ⟨rfl,rfl⟩
 refine tg_ hC [.n 1,.K [] [605,607,608,609]] rfl ?_
 cases h
 refine AK.done ?_
 exact ex_ [] (an_ tt_ (Qas ⟨rfl,rfl,rfl,rfl,tt_⟩))
def Qc9 (d:(List (Option Nat)))(b:(List (Int×(Option Nat))))(e:(Option Nat))(f:(List Qf)):Option ((List (Option Nat))×(List Qf)):=
 (Qdq d b e f).bind fun a=>
 (Qa5 a.1 a.2).bind fun g=>
 (QdJ a.1 b (w64 (g-1)) a.2).bind fun c=>
 some (c.1,c.2)
theorem Qhr (gA:Nat→Nat)(c:(List (Option Nat)))(a:(List (Int×(Option Nat))))(j:(Option Nat))(k:(List Qf)){r:((List (Option Nat))×(List Qf))}(h:Qc9 c a j k=some r):Qh prog 85 [.ifc 120 (.loc 607 0 0),.ifc 116 (QL gA j)] [(607,.var [.own 605 c.length,.map 608]),(605,.arr 1 (c.map (QA gA))),(608,.map (QF V.I (QL gA) a)),(609,.tbl gA 3 (k.map Qi))] (Qp (.tup []) [(605,.arr 1 (r.1.map (QA gA))),(607,.var [.own 605 r.1.length,.map 608]),(608,.map (QF V.I (QL gA) a)),(609,.tbl gA 3 (r.2.map Qi))]):=by
 refine Qh.walk 12 func85 rfl rfl rfl fun C hC=>?_
 obtain⟨b,e,h⟩:=Qd h
 obtain⟨l,f,h⟩:=Qd h
 obtain⟨g,i,h⟩:=Qd h
 refine Qa hC [.n 4,.cm (.me 128) [(607,607),(605,605),(608,608),(609,609)] [(605,605),(607,607),(608,608),(609,609)] [605] [.d,.d] [(605,.arr 1 (b.1.map (QA gA))),(607,.var [.own 605 b.1.length,.map 608]),(608,.map (QF V.I (QL gA) a)),(609,.tbl gA 3 (b.2.map Qi))] (.tup []),.n 5,.cm (.mv 124 113) [(607,605),(608,609)] [(605,607),(609,608)] [] [.d] [(607,.arr 1 (b.1.map (QA gA))),(608,.tbl gA 3 (b.2.map Qi))] (.I l),.n 1,.cm (.fn) [(607,607),(605,605),(608,608),(609,609)] [(605,605),(607,607),(608,608),(609,609)] [605] [.d,.d] [(605,.arr 1 (g.1.map (QA gA))),(607,.var [.own 605 g.1.length,.map 608]),(608,.map (QF V.I (QL gA) a)),(609,.tbl gA 3 (g.2.map Qi))] (.tup []),.n 1,.K [] [605,607,608,609]] rfl ⟨⟨⟨⟨⟨tt_,QmR⟩,(QhC gA _ _ _ _ e)⟩,Qk4⟩,(QeG gA _ _ f)⟩,(Qil gA _ _ _ _ i)⟩ ?_
 cases h
 refine AK.done ?_
 exact ex_ [] (an_ tt_ (Qas ⟨rfl,rfl,rfl,rfl,tt_⟩))
def Qcd (d:(List (Option Nat)))(c:(List (Int×(Option Nat))))(a:Int)(at_4:Int)(b:(List Qf)):Option (Int×(List (Option Nat))×(List Qf)×(List (Int×(Option Nat)))):=
 bif ((Qaq c a).getD none).isSome then
 some (5,d,b,c)
 else
 (Qb5 d c b).bind fun f=>
 bif (f==4096)then
 some (2,d,b,c)
 else
 (chk (d.all (okP b.length))).bind fun _=>
 (chk (c.all (fun q=>okP b.length q.2))).bind fun _=>
 (Qc9 d (QcU ltI c a (some b.length)) (some b.length) (b++[(Qf.mk a at_4 0)])).bind fun e=>
 some (0,e.1,e.2,(QcU ltI c a (some b.length)))
theorem QhD (gA:Nat→Nat)(s:(List (Option Nat)))(i:(List (Int×(Option Nat))))(a:Int)(at_4:Int)(j:(List Qf)){r:(Int×(List (Option Nat))×(List Qf)×(List (Int×(Option Nat))))}(h:Qcd s i a at_4 j=some r):Qh prog 45 [.loc 607 0 0,.I a,.I at_4] [(607,.var [.own 605 s.length,.map 608]),(605,.arr 1 (s.map (QA gA))),(608,.map (QF V.I (QL gA) i)),(606,.tbl gA 3 (j.map Qi))] (fun v hs=>∃gA:Nat→Nat,True∧Qp (.I r.1) [(605,.arr 1 (r.2.1.map (QA gA))),(606,.tbl gA 3 (r.2.2.1.map Qi)),(607,.var [.own 605 r.2.1.length,.map 608]),(608,.map (QF V.I (QL gA) r.2.2.2))] v hs):=by
 refine Qh.walk 37 func45 rfl rfl rfl fun C hC=>?_
 refine Qa hC [.n 14,.o (.any (QL gA ((Qaq i a).getD none)) none),.o (.any (.b ((Qaq i a).getD none).isSome) none),.n 3] rfl ⟨⟨tt_,(fun σ t D _=>Stp.lookup (e:=V.I) (f:=(QL gA)) (l:=i) (k:=a) (z:=none) rfl rfl (Qt hC.n rfl) (t _ _ rfl) (D _ _ rfl) (t _ _ rfl) QmA Qmz Qpv rfl)⟩,(fun σ t D _=>Stp.neqNilP rfl rfl (Qt hC.n rfl) (t _ _ rfl) (t _ _ rfl) Qpu)⟩ ?_
 rcases QB h with⟨c,h⟩|⟨c,h⟩
 ·refine Qa hC [.T,.n 8,.K [6] [605,606,607,608]] rfl ⟨tt_,c⟩ ?_
  cases h
  exact AK.done (ex_ [_] (an_ (an_ rfl tt_) (ex_ _ (an_ tt_ (Qas ⟨rfl,rfl,rfl,rfl,tt_⟩)))))
 obtain⟨B,u,h⟩:=Qd h
 refine Qa hC [.F,.n 3,.cm (.fn) [(607,607),(605,605),(608,608),(609,606)] [(605,605),(607,607),(608,608),(606,609)] [605] [.d] [(605,.arr 1 (s.map (QA gA))),(607,.var [.own 605 s.length,.map 608]),(608,.map (QF V.I (QL gA) i)),(609,.tbl gA 3 (j.map Qi))] (.I B),.n 4] rfl ⟨⟨tt_,c⟩,(Qfz gA _ _ _ u)⟩ ?_
 rcases QB h with⟨g,h⟩|⟨g,h⟩
 ·refine Qa hC [.T,.n 8,.K [6] [605,606,607,608]] rfl ⟨tt_,g⟩ ?_
  cases h
  exact AK.done (ex_ [_] (an_ (an_ rfl tt_) (ex_ _ (an_ tt_ (Qas ⟨rfl,rfl,rfl,rfl,tt_⟩)))))
 obtain⟨w,h⟩:=QaV h
 obtain⟨y,h⟩:=QaV h
 refine Qa hC [.F,.n 7,.v .no [] (.agg (Qi (Qf.mk a at_4 0)))] rfl ⟨⟨tt_,g⟩,rfl⟩ ?_
 refine AK.boxP (b:=606) (n:=j.length) (rsN:=(j++[(Qf.mk a at_4 0)]).map Qi) rfl rfl rfl (Qt hC.n rfl) rfl rfl rfl rfl rfl rfl Qj (QaZ (m:=[(Qf.mk a at_4 0)])) fun gA p=>?_
 obtain⟨q,A,h⟩:=Qd h
 refine Qa hC [.O 605 (.arr 1 (s.map (QA gA))),.O 608 (.map (QF V.I (QL gA) i)),.n 11,.x (fun σ=>σ.set 608 (.map (QF V.I (QL gA) (QcU ltI i a (some j.length))))),.n 10,.cm (.fn) [(607,607),(605,605),(608,608),(609,606)] [(605,605),(607,607),(608,608),(606,609)] [605] [.d,.d] [(605,.arr 1 (q.1.map (QA gA))),(607,.var [.own 605 q.1.length,.map 608]),(608,.map (QF V.I (QL gA) (QcU ltI i a (some j.length)))),(609,.tbl gA 3 (q.2.map Qi))] (.tup []),.n 8,.K [6] [605,606,607,608]] rfl ⟨⟨⟨⟨tt_,(congrArg (Ob.arr 1) (Qo0 p w))⟩,(congrArg Ob.map (Qo1 p y))⟩,(Stp.mapUpdate (e:=V.I) (f:=(QL gA)) (l:=i) (k:=a) (v:=(some j.length)) ltI rfl rfl rfl rfl rfl rfl QmA Qmz rfl)⟩,(Qhr gA _ _ _ _ A)⟩ ?_
 cases h
 exact AK.done (ex_ [_] (an_ (an_ rfl tt_) (ex_ _ (an_ tt_ (Qas ⟨rfl,rfl,rfl,rfl,tt_⟩)))))
def Qau (a:(List (Option Nat)))(j:(List (Int×(Option Nat))))(b:(List Qf)):Option (Int×Int×Bool):=
 (Qb5 a j b).bind fun c=>
 bif (c==0)then
 some (0,0,false)
 else
 (idx a 0).bind fun d=>
 (d).bind fun e=>
 (b[e]?).bind fun f=>
 (idx a 0).bind fun g=>
 (g).bind fun h=>
 (b[h]?).bind fun i=>
 some (f.id,i.at_,true)
theorem Qfa (gA:Nat→Nat)(i:(List (Option Nat)))(v:(List (Int×(Option Nat))))(w:(List Qf)){r:(Int×Int×Bool)}(h:Qau i v w=some r):Qh prog 86 [.loc 607 0 0] [(607,.var [.own 605 i.length,.map 608]),(605,.arr 1 (i.map (QA gA))),(608,.map (QF V.I (QL gA) v)),(609,.tbl gA 3 (w.map Qi))] (Qp (.tup [.I r.1,.I r.2.1,.b r.2.2]) [(605,.arr 1 (i.map (QA gA))),(607,.var [.own 605 i.length,.map 608]),(608,.map (QF V.I (QL gA) v)),(609,.tbl gA 3 (w.map Qi))]):=by
 refine Qh.walk 26 func86 rfl rfl rfl fun C hC=>?_
 obtain⟨x,k,h⟩:=Qd h
 refine Qa hC [.n 11,.cm (.fn) [(607,607),(605,605),(608,608),(609,609)] [(605,605),(607,607),(608,608),(609,609)] [605] [.d] [(605,.arr 1 (i.map (QA gA))),(607,.var [.own 605 i.length,.map 608]),(608,.map (QF V.I (QL gA) v)),(609,.tbl gA 3 (w.map Qi))] (.I x),.n 3] rfl ⟨tt_,(Qfz gA _ _ _ k)⟩ ?_
 rcases QB h with⟨c,h⟩|⟨c,h⟩
 ·refine Qa hC [.T,.n 9,.K [2,3,4] [605,607,608,609]] rfl ⟨tt_,c⟩ ?_
  cases h
  exact AK.done (ex_ [_,_,_] (an_ (an_ rfl (an_ rfl (an_ rfl tt_))) (Qas ⟨rfl,rfl,rfl,rfl,tt_⟩)))
 obtain⟨y,f,h⟩:=Qd h
 obtain⟨l,o,h⟩:=Qd h
 obtain⟨z,p,h⟩:=Qd h
 obtain⟨A,g,h⟩:=Qd h
 obtain⟨q,t,h⟩:=Qd h
 obtain⟨B,u,h⟩:=Qd h
 refine Qa hC [.F,.n 3,.K [0,2,3,4] [605,607,608,609]] rfl ⟨tt_,c⟩ ?_
 refine AK.draw2 Qk hC mixed [.N,.N,.N,.N,.N,.a (.row ((QA gA) y)) none false,.a (.any (QaS gA 0 l) none) none false,.a (.any (QaS gA 0 l) none) none false,.a (.any (.I z.id) none) none false,.a .no none true,.a .no none true,.a .no none true,.a .no none true,.a .no none true,.a (.row ((QA gA) A)) none true,.a (.any (QaS gA 0 q) none) none true,.a (.any (QaS gA 1 q) none) none true,.a (.any (.I B.at_) none) none true,.m .s,.m .s,.m .s] [0,4] [605,607,608,609] [2,3,4] [605,607,608,609] rfl rfl rfl ⟨⟨⟨⟨⟨⟨⟨⟨⟨⟨tt_,(Qbm f rfl)⟩,(QS (Qbk f).2)⟩,(fun σ e j _=>Stp.nilCheckP rfl rfl (Qt hC.n rfl) (e _ _ rfl) o)⟩,(fun σ e j _=>Stp.fieldP rfl rfl (Qt hC.n rfl) (e _ _ rfl) (Qk.fo rfl rfl) rfl)⟩,(fun σ e j _=>Stp.loadP (b:=609) rfl rfl (Qt hC.n rfl) (e _ _ rfl) (j _ _ rfl) (Qk.ag rfl) (QS p) rfl)⟩,(Qbm g rfl)⟩,(QS (Qbk g).2)⟩,(fun σ e j _=>Stp.nilCheckP rfl rfl (Qt hC.n rfl) (e _ _ rfl) t)⟩,(fun σ e j _=>Stp.fieldP rfl rfl (Qt hC.n rfl) (e _ _ rfl) (Qk.fo rfl rfl) rfl)⟩,(fun σ e j _=>Stp.loadP (b:=609) rfl rfl (Qt hC.n rfl) (e _ _ rfl) (j _ _ rfl) (Qk.ag rfl) (QS u) rfl)⟩ rfl (by kernel_rfl) rfl rfl rfl ?_
 refine tg_ hC [.n 2,.K [2,3,4] [605,607,608,609]] rfl ?_
 cases h
 exact AK.done (ex_ [_,_,_] (an_ (an_ rfl (an_ rfl (an_ rfl tt_))) (Qas ⟨rfl,rfl,rfl,rfl,tt_⟩)))
def Q6 (a:(List (Option Nat)))(b:Int)(c:(List Qf))(d:Int):Option ((Int×(List Qf)×(List (Option Nat)))⊕(Int×(List Qf)×(List (Option Nat)))):=
 (Qa3 a d b c).bind fun f=>
 bif (!f)then
 some (.inr (b,c,a))
 else
 (QaT a b d c).bind fun e=>
 (chk (decide (e.1.length=a.length))).bind fun _=>
 some (.inl (d,e.2,e.1))
def Qd8 (a:Int)(e:Int)(b:(List (Option Nat)))(c:(List Qf)):Option Bool:=
 bif (decide ((w64 ((w64 ((w64 (2*a))+1))+1))<e))then
 (Qa3 b (w64 ((w64 ((w64 (2*a))+1))+1)) (w64 ((w64 (2*a))+1)) c).bind fun d=>
 some d
 else
 some false
def Qa0 (b:(List (Option Nat)))(a:Int)(c:(List Qf))(d:Bool):Option ((Int×(List Qf)×(List (Option Nat)))⊕(Int×(List Qf)×(List (Option Nat)))):=
 bif d then
 Q6 b a c (w64 ((w64 ((w64 (2*a))+1))+1))
 else
 Q6 b a c (w64 ((w64 (2*a))+1))
def Qae (e:Int)(a:Int)(b:(List Qf))(c:(List (Option Nat))):Option ((Int×(List Qf)×(List (Option Nat)))⊕(Int×(List Qf)×(List (Option Nat)))):=
 bif ((decide (e≤(w64 ((w64 (2*a))+1))))||(decide ((w64 ((w64 (2*a))+1))<0)))then
 some (.inr (a,b,c))
 else
 (Qd8 a e c b).bind (fun d=>Qa0 c a b d)
def Qcv (d:Int)(a:Int)(b:(List Qf))(c:(List (Option Nat))):Option (Bool×(List (Option Nat))×(List Qf)):=
 some ((decide (d<a)),c,b)
def Qda (b:(List (Option Nat)))(e:(List (Int×(Option Nat))))(a:Int)(c:Int)(d:(List Qf)):Option (Bool×(List (Option Nat))×(List Qf)):=
 (QK (fun st=>Qae c st.1 st.2.1 st.2.2) (a,d,b)).bind (fun q=>Qcv a q.1 q.2.1 q.2.2)
theorem Qhs (gA:Nat→Nat)(D:(List (Option Nat)))(p:(List (Int×(Option Nat))))(s:Int)(i:Int)(N:(List Qf)){r:(Bool×(List (Option Nat))×(List Qf))}(h:Qda D p s i N=some r):Qh prog 105 [.ifc 120 (.loc 607 0 0),.I s,.I i] [(607,.var [.own 605 D.length,.map 608]),(605,.arr 1 (D.map (QA gA))),(608,.map (QF V.I (QL gA) p)),(609,.tbl gA 3 (N.map Qi))] (Qp (.b r.1) [(605,.arr 1 (r.2.1.map (QA gA))),(607,.var [.own 605 r.2.1.length,.map 608]),(608,.map (QF V.I (QL gA) p)),(609,.tbl gA 3 (r.2.2.map Qi))]):=by
 refine Qh.walk 48 func105 rfl rfl rfl fun C hC=>?_
 refine tg_ hC [.n 13,.K [0,1,2,7] [605,607,608,609]] rfl ?_
 obtain⟨E,w,h⟩:=Qd h
 refine AK.loop (body:=(fun st=>Qae i st.1 st.2.1 st.2.2)) (fun st σ=>σ=⟨[(0,.ifc 120 (.loc 607 0 0)),(1,.I s),(2,.I i),(7,.I st.1)],[(605,.arr 1 (st.2.2.map (QA gA))),(607,.var [.own 605 st.2.2.length,.map 608]),(608,.map (QF V.I (QL gA) p)),(609,.tbl gA 3 (st.2.1.map Qi))]⟩) (fun q e σ=>e=.exit 0∧σ=⟨[(1,.I s),(7,.I q.1)],[(605,.arr 1 (q.2.2.map (QA gA))),(607,.var [.own 605 q.2.2.length,.map 608]),(608,.map (QF V.I (QL gA) p)),(609,.tbl gA 3 (q.2.1.map Qi))]⟩) w rfl ?_ ?_
 ·rintro ⟨a,f,c⟩ o σ rfl h
  refine tg_ hC [.n 11] rfl ?_
  refine AK.meetX (fun σ=>σ=⟨[(0,.ifc 120 (.loc 607 0 0)),(1,.I s),(2,.I i),(7,.I a),(8,.I (w64 ((w64 (2*a))+1))),(21,.b ((decide (i≤(w64 ((w64 (2*a))+1))))||(decide ((w64 ((w64 (2*a))+1))<0))))],[(605,.arr 1 (c.map (QA gA))),(607,.var [.own 605 c.length,.map 608]),(608,.map (QF V.I (QL gA) p)),(609,.tbl gA 3 (f.map Qi))]⟩) ?_ ?_
  ·refine tg_ hC [.n 5] rfl ?_
   rcases Qa6 (decide (i≤(w64 ((w64 (2*a))+1))))with g | g
   ·refine Qa hC [.S 18 (.b true),.n 4,.S 21 (.b ((decide (i≤(w64 ((w64 (2*a))+1))))||(decide ((w64 ((w64 (2*a))+1))<0)))),.K [0,1,2,7,8,21] [605,607,608,609]] rfl ⟨(tc_ g),(congrArg V.b (orT g rfl))⟩ ?_
    exact AK.met rfl
   refine Qa hC [.S 18 (.b false),.n 4,.S 21 (.b ((decide (i≤(w64 ((w64 (2*a))+1))))||(decide ((w64 ((w64 (2*a))+1))<0)))),.K [0,1,2,7,8,21] [605,607,608,609]] rfl ⟨(tc_ g),(congrArg V.b (orF g rfl))⟩ ?_
   exact AK.met rfl
  rintro σ rfl
  refine tg_ hC [.n 1] rfl ?_
  refine bg_ h (fun j h=>Qa hC [.T,.n 3,.K [1,7] [605,607,608,609]] rfl ⟨tt_,j⟩ ?_) fun j h=>Qa hC [.F,.n 8] rfl ⟨tt_,j⟩ ?_
  ·cases h
   exact QaM rfl (an_ rfl rfl)
  refine AK.meet (fun σ=>∃t:Int,σ=⟨[(0,.ifc 120 (.loc 607 0 0)),(1,.I s),(2,.I i),(7,.I a),(9,.I t)],[(605,.arr 1 (c.map (QA gA))),(607,.var [.own 605 c.length,.map 608]),(608,.map (QF V.I (QL gA) p)),(609,.tbl gA 3 (f.map Qi))]⟩∧Q6 c a f t=some o) ?_ ?_
  ·refine tg_ hC [.n 8] rfl ?_
   obtain⟨u,x,h⟩:=Qd h
   replace h:Qa0 c a f u=some o:=h
   refine AK.meetX (fun σ=>σ=⟨[(0,.ifc 120 (.loc 607 0 0)),(1,.I s),(2,.I i),(7,.I a),(9,.I (w64 ((w64 (2*a))+1))),(10,.I (w64 ((w64 ((w64 (2*a))+1))+1))),(33,.b u)],[(605,.arr 1 (c.map (QA gA))),(607,.var [.own 605 c.length,.map 608]),(608,.map (QF V.I (QL gA) p)),(609,.tbl gA 3 (f.map Qi))]⟩) ?_ ?_
   ·replace h:=x
    refine tg_ hC [.n 5] rfl ?_
    rcases QB h with⟨k,h⟩|⟨k,h⟩
    ·obtain⟨G,y,h⟩:=Qd h
     refine Qa hC [.S 28 (.b true),.n 3,.cm (.mv 125 113) [(607,605),(608,609)] [(605,607),(609,608)] [] [.d,.d,.d] [(607,.arr 1 (c.map (QA gA))),(608,.tbl gA 3 (f.map Qi))] (.b G),.n 2,.K [0,1,2,7,9,10,33] [605,607,608,609]] rfl ⟨⟨(tc_ k),Qif⟩,(QcJ gA _ _ _ _ y)⟩ ?_
     cases h
     exact AK.met rfl
    refine Qa hC [.S 28 (.b false),.n 6,.K [0,1,2,7,9,10,33] [605,607,608,609]] rfl (tc_ k) ?_
    cases h
    exact AK.met rfl
   rintro σ rfl
   replace h:Qa0 c a f u=some o:=h
   refine tg_ hC [.n 1] rfl ?_
   refine bg_ h (fun l h=>Qa hC [.T,.n 4,.K [0,1,2,7,9] [605,607,608,609]] rfl ⟨tt_,l⟩ ?_) fun l h=>Qa hC [.F,.n 1,.K [0,1,2,7,9] [605,607,608,609]] rfl ⟨tt_,l⟩ ?_
   ·exact AK.met (ex_ _ (an_ rfl h))
   exact AK.met (ex_ _ (an_ rfl h))
  rintro σ ⟨t,rfl,h⟩
  obtain⟨H,z,h⟩:=Qd h
  refine Qa hC [.n 6,.cm (.mv 125 113) [(607,605),(608,609)] [(605,607),(609,608)] [] [.d,.d,.d] [(607,.arr 1 (c.map (QA gA))),(608,.tbl gA 3 (f.map Qi))] (.b H),.n 3] rfl ⟨⟨tt_,Qif⟩,(QcJ gA _ _ _ _ z)⟩ ?_
  rcases QB h with⟨m,h⟩|⟨m,h⟩
  ·refine Qa hC [.T,.n 3,.K [1,7] [605,607,608,609]] rfl ⟨tt_,m⟩ ?_
   cases h
   exact QaM rfl (an_ rfl rfl)
  obtain⟨v,A,h⟩:=Qd h
  obtain⟨B,h⟩:=QaV h
  refine Qa hC [.F,.n 7,.cm (.mv 126 113) [(607,605),(608,609)] [(605,607),(609,608)] [] [.d,.d,.d] [(607,.arr 1 (v.1.map (QA gA))),(608,.tbl gA 3 (v.2.map Qi))] (.tup []),.O 607 (.var [.own 605 v.1.length,.map 608]),.n 7,.K [0,1,2,7] [605,607,608,609]] rfl ⟨⟨⟨⟨tt_,m⟩,Qig⟩,(QcK gA _ _ _ _ A)⟩,(by simp [Qal B])⟩ ?_
  cases h
  exact QaR rfl rfl
 obtain⟨J,L,M⟩:=E
 replace h:Qcv s J L M=some r:=h
 rintro e σ ⟨rfl,rfl⟩
 refine tg_ hC [.n 11] rfl ?_
 cases h
 exact d1_ rfl rfl ⟨rfl,rfl,rfl,rfl,tt_⟩
def QdK (a:(List (Option Nat)))(c:(List (Int×(Option Nat))))(d:(List Qf)):Option ((Option Nat)×(List (Option Nat))):=
 (idx a (w64 ((a.length:Int)-1))).bind fun b=>
 (chk (decide (0≤(w64 ((a.length:Int)-1)))&&decide ((w64 ((a.length:Int)-1)).toNat≤a.length))).bind fun _=>
 some (b,(a.take (w64 ((a.length:Int)-1)).toNat))
theorem Qim (gA:Nat→Nat)(b:(List (Option Nat)))(e:(List (Int×(Option Nat))))(f:(List Qf)){r:((Option Nat)×(List (Option Nat)))}(h:QdK b e f=some r):Qh prog 127 [.loc 607 0 0] [(607,.var [.own 605 b.length,.map 608]),(605,.arr 1 (b.map (QA gA))),(608,.map (QF V.I (QL gA) e)),(609,.tbl gA 3 (f.map Qi))] (Qp (.ifc 116 (QL gA r.1)) [(605,.arr 1 (r.2.map (QA gA))),(607,.var [.own 605 r.2.length,.map 608]),(608,.map (QF V.I (QL gA) e)),(609,.tbl gA 3 (f.map Qi))]):=by
 refine Qh.walk 27 func127 rfl rfl rfl fun C hC=>?_
 obtain⟨j,d,h⟩:=Qd h
 refine tg_ hC [.n 6,.K [0] [605,607,608,609]] rfl ?_
 refine AK.draw2 Qk hC mixed [.N,.N,.N,.N,.N,.N,.N,.N,.N,.a (.row ((QA gA) j)) none false,.N] [] [] [0,3] [605,607,608,609] rfl rfl rfl ⟨⟨tt_,(Qbm d rfl)⟩,(QS (Qbk d).2)⟩ rfl (by kernel_rfl) rfl rfl rfl ?_
 obtain⟨c,h⟩:=QaV h
 refine tg_ hC [.n 2,.K [0,3] [605,607,608,609]] rfl ?_
 have g:(w64 ((b.length:Int)-1)).toNat=(b.take (w64 ((b.length:Int)-1)).toNat).length:=by rw [QgM,Nat.min_eq_left (Qal (QkV c))]
 refine AK.draw2 Qk hC mixed [.a .no none true,.N,.N,.N,.N,.N,.N,.N,.N,.m (.any ⟨[],[(605,.arr 1 ((b.take (w64 ((b.length:Int)-1)).toNat).map (QA gA)))],some (23,.own 605 (w64 ((b.length:Int)-1)).toNat)⟩),.N,.m .s] [0,3] [607,608,609] [3] [605,607,608,609] rfl rfl rfl ⟨tt_,(fun σ i k=>Stp.sliceO rfl rfl (Qt hC.n rfl) (i _ _ rfl) (k _ _ rfl) (Qk.es rfl) Bnd.no (Bnd.val (i _ _ rfl) (Qal (QkU c)) rfl) (Qal (QkV c)) (by simp))⟩ rfl (by kernel_rfl) rfl rfl rfl ?_
 refine Qa hC [.O 607 (.var [.own 605 (w64 ((b.length:Int)-1)).toNat,.map 608]),.n 9,.O 607 (.var [.own 605 (b.take (w64 ((b.length:Int)-1)).toNat).length,.map 608])] rfl ⟨⟨tt_,rfl⟩,(congrArg (fun n=>Ob.var [.own 605 n,.map 608]) (by rw [←g]))⟩ ?_
 cases h
 exact d1_ rfl rfl ⟨rfl,rfl,rfl,rfl,tt_⟩
def Qce (c:(List (Option Nat)))(e:(List (Int×(Option Nat))))(f:(List Qf)):Option ((Option Nat)×(List (Option Nat))×(List Qf)):=
 (Qa5 c f).bind fun g=>
 (QaT c 0 (w64 (g-1)) f).bind fun d=>
 (chk (decide (d.1.length=c.length))).bind fun _=>
 (Qda d.1 e 0 (w64 (g-1)) d.2).bind fun a=>
 (QdK a.2.1 e a.2.2).bind fun b=>
 some (b.1,b.2,a.2.2)
theorem QhE (gA:Nat→Nat)(i:(List (Option Nat)))(e:(List (Int×(Option Nat))))(j:(List Qf)){r:((Option Nat)×(List (Option Nat))×(List Qf))}(h:Qce i e j=some r):Qh prog 87 [.ifc 120 (.loc 607 0 0)] [(607,.var [.own 605 i.length,.map 608]),(605,.arr 1 (i.map (QA gA))),(608,.map (QF V.I (QL gA) e)),(609,.tbl gA 3 (j.map Qi))] (Qp (.ifc 116 (QL gA r.1)) [(605,.arr 1 (r.2.1.map (QA gA))),(607,.var [.own 605 r.2.1.length,.map 608]),(608,.map (QF V.I (QL gA) e)),(609,.tbl gA 3 (r.2.2.map Qi))]):=by
 refine Qh.walk 15 func87 rfl rfl rfl fun C hC=>?_
 obtain⟨p,k,h⟩:=Qd h
 obtain⟨l,m,h⟩:=Qd h
 obtain⟨o,h⟩:=QaV h
 obtain⟨a,f,h⟩:=Qd h
 obtain⟨c,g,h⟩:=Qd h
 refine Qa hC [.n 8,.cm (.mv 124 113) [(607,605),(608,609)] [(605,607),(609,608)] [] [.d] [(607,.arr 1 (i.map (QA gA))),(608,.tbl gA 3 (j.map Qi))] (.I p),.n 8,.cm (.mv 126 113) [(607,605),(608,609)] [(605,607),(609,608)] [] [.d,.d,.d] [(607,.arr 1 (l.1.map (QA gA))),(608,.tbl gA 3 (l.2.map Qi))] (.tup []),.O 607 (.var [.own 605 l.1.length,.map 608]),.n 6,.cm (.fn) [(607,607),(605,605),(608,608),(609,609)] [(605,605),(607,607),(608,608),(609,609)] [605] [.d,.d,.d] [(605,.arr 1 (a.2.1.map (QA gA))),(607,.var [.own 605 a.2.1.length,.map 608]),(608,.map (QF V.I (QL gA) e)),(609,.tbl gA 3 (a.2.2.map Qi))] (.b a.1),.n 5,.cm (.me 127) [(607,607),(605,605),(608,608),(609,609)] [(605,605),(607,607),(608,608),(609,609)] [605] [.d] [(605,.arr 1 (c.2.map (QA gA))),(607,.var [.own 605 c.2.length,.map 608]),(608,.map (QF V.I (QL gA) e)),(609,.tbl gA 3 (a.2.2.map Qi))] (.ifc 116 (QL gA c.1)),.n 4] rfl ⟨⟨⟨⟨⟨⟨⟨⟨tt_,Qk4⟩,(QeG gA _ _ k)⟩,Qig⟩,(QcK gA _ _ _ _ m)⟩,(by simp [Qal o])⟩,(Qhs gA _ _ _ _ _ f)⟩,Qnx⟩,(Qim gA _ _ _ g)⟩ ?_
 cases h
 exact d1_ rfl rfl ⟨rfl,rfl,rfl,rfl,tt_⟩
def Qav (f:Int)(a:Int)(at_14:Int)(g:Bool)(d:(List Int))(b:(List (Int×(Option Nat))))(h:(List Qf))(i:(List (Option Nat))):Option ((Int×Int×Bool×(List Int)×(List (Int×(Option Nat)))×(List Qf)×(List (Option Nat)))⊕((List Int)×(List (Int×(Option Nat)))×(List Qf)×(List (Option Nat)))):=
 bif (g&&(decide (at_14≤f)))then
 (chk (decide (d.length+([a]:List Int).length≤4294967296))).bind fun _=>
 (Qce i b h).bind fun c=>
 (Qau c.2.1 (Qc3 b a) c.2.2).bind fun e=>
 some (.inl (e.1,e.2.1,e.2.2,(d++([a]:List Int)),(Qc3 b a),c.2.2,c.2.1))
 else
 some (.inr (d,b,h,i))
def Qdr (a:(List Int))(b:(List (Int×(Option Nat))))(c:(List Qf))(d:(List (Option Nat))):Option ((List Int)×(List (Option Nat))×(List (Int×(Option Nat)))×(List Qf)):=
 some (a,d,b,c)
def Qev (c:(List (Option Nat)))(d:(List (Int×(Option Nat))))(a:Int)(e:(List Qf)):Option ((List Int)×(List (Option Nat))×(List (Int×(Option Nat)))×(List Qf)):=
 (Qau c d e).bind fun b=>
 (QK (fun st=>Qav a st.1 st.2.1 st.2.2.1 st.2.2.2.1 st.2.2.2.2.1 st.2.2.2.2.2.1 st.2.2.2.2.2.2) (b.1,b.2.1,b.2.2,([]:List Int),d,e,c)).bind (fun q=>Qdr q.1 q.2.1 q.2.2.1 q.2.2.2)
theorem Qje (gA:Nat→Nat)(u:(List (Option Nat)))(D:(List (Int×(Option Nat))))(a:Int)(E:(List Qf)){r:((List Int)×(List (Option Nat))×(List (Int×(Option Nat)))×(List Qf))}(h:Qev u D a E=some r):Qh prog 46 [.loc 607 0 0,.I a] [(607,.var [.own 605 u.length,.map 608]),(605,.arr 1 (u.map (QA gA))),(608,.map (QF V.I (QL gA) D)),(609,.tbl gA 3 (E.map Qi))] (Qp (.own 600 r.1.length) [(600,.arr 1 (r.1.map Qr)),(605,.arr 1 (r.2.1.map (QA gA))),(607,.var [.own 605 r.2.1.length,.map 608]),(608,.map (QF V.I (QL gA) r.2.2.1)),(609,.tbl gA 3 (r.2.2.2.map Qi))]):=by
 refine Qh.walk 42 func46 rfl rfl rfl fun C hC=>?_
 obtain⟨G,H,h⟩:=Qd h
 refine Qa hC [.n 14,.cm (.fn) [(607,607),(605,605),(608,608),(609,609)] [(605,605),(607,607),(608,608),(609,609)] [605] [.d] [(605,.arr 1 (u.map (QA gA))),(607,.var [.own 605 u.length,.map 608]),(608,.map (QF V.I (QL gA) D)),(609,.tbl gA 3 (E.map Qi))] (.tup [.I G.1,.I G.2.1,.b G.2.2]),.n 10,.adopt 5 27 1,.O 27 (.arr 1 (([]:List Int).map Qr)),.S 5 (.own 27 ([]:List Int).length),.K [0,1,5,6,7,8] [27,605,607,608,609]] rfl ⟨⟨⟨tt_,(Qfa gA _ _ _ H)⟩,rfl⟩,(congrArg (fun n=>V.own 27 n) (by simp))⟩ ?_
 obtain⟨J,w,h⟩:=Qd h
 refine AK.loop (body:=(fun st=>Qav a st.1 st.2.1 st.2.2.1 st.2.2.2.1 st.2.2.2.2.1 st.2.2.2.2.2.1 st.2.2.2.2.2.2)) (fun st σ=>σ=⟨[(0,.loc 607 0 0),(1,.I a),(5,.own 27 st.2.2.2.1.length),(6,.I st.1),(7,.I st.2.1),(8,.b st.2.2.1)],[(27,.arr 1 (st.2.2.2.1.map Qr)),(605,.arr 1 (st.2.2.2.2.2.2.map (QA gA))),(607,.var [.own 605 st.2.2.2.2.2.2.length,.map 608]),(608,.map (QF V.I (QL gA) st.2.2.2.2.1)),(609,.tbl gA 3 (st.2.2.2.2.2.1.map Qi))]⟩) (fun q e σ=>e=.exit 0∧σ=⟨[(5,.own 27 q.1.length)],[(27,.arr 1 (q.1.map Qr)),(605,.arr 1 (q.2.2.2.map (QA gA))),(607,.var [.own 605 q.2.2.2.length,.map 608]),(608,.map (QF V.I (QL gA) q.2.1)),(609,.tbl gA 3 (q.2.2.1.map Qi))]⟩) w rfl ?_ ?_
 ·rintro ⟨c,at_14,j,s,m,L,y⟩ o σ rfl h
  refine tg_ hC [.n 2] rfl ?_
  refine AK.meetX (fun σ=>σ=⟨[(0,.loc 607 0 0),(1,.I a),(5,.own 27 s.length),(6,.I c),(20,.b (j&&(decide (at_14≤a))))],[(27,.arr 1 (s.map Qr)),(605,.arr 1 (y.map (QA gA))),(607,.var [.own 605 y.length,.map 608]),(608,.map (QF V.I (QL gA) m)),(609,.tbl gA 3 (L.map Qi))]⟩) ?_ ?_
  ·refine tg_ hC [.n 3] rfl ?_
   rcases Qa6 j with g | g
   ·refine Qa hC [.S 16 (.b true),.n 5,.S 20 (.b (j&&(decide (at_14≤a)))),.K [0,1,5,6,20] [27,605,607,608,609]] rfl ⟨(tc_ g),(congrArg V.b (QjD g rfl))⟩ ?_
    exact AK.met rfl
   refine Qa hC [.S 16 (.b false),.n 5,.S 20 (.b (j&&(decide (at_14≤a)))),.K [0,1,5,6,20] [27,605,607,608,609]] rfl ⟨(tc_ g),(congrArg V.b (QjE g rfl))⟩ ?_
   exact AK.met rfl
  rintro σ rfl
  refine tg_ hC [.n 1] rfl ?_
  rcases QB h with⟨p,h⟩|⟨p,h⟩
  ·obtain⟨z,h⟩:=QaV h
   obtain⟨i,A,h⟩:=Qd h
   obtain⟨t,B,h⟩:=Qd h
   refine Qa hC [.T,.n 8,.v (.bd []) [] (.sl 1 (([c]:List Int).map Qr)),.app ((s++([c]:List Int)).map Qr) (s++([c]:List Int)).length,.n 9,.cm (.fn) [(607,607),(605,605),(608,608),(609,609)] [(605,605),(607,607),(608,608),(609,609)] [605] [.d] [(605,.arr 1 (i.2.1.map (QA gA))),(607,.var [.own 605 i.2.1.length,.map 608]),(608,.map (QF V.I (QL gA) m)),(609,.tbl gA 3 (i.2.2.map Qi))] (.ifc 116 (QL gA i.1)),.n 8,.x (fun σ=>σ.set 608 (.map (QF V.I (QL gA) (Qc3 m c)))),.n 5,.cm (.fn) [(607,607),(605,605),(608,608),(609,609)] [(605,605),(607,607),(608,608),(609,609)] [605] [.d] [(605,.arr 1 (i.2.1.map (QA gA))),(607,.var [.own 605 i.2.1.length,.map 608]),(608,.map (QF V.I (QL gA) (Qc3 m c))),(609,.tbl gA 3 (i.2.2.map Qi))] (.tup [.I t.1,.I t.2.1,.b t.2.2]),.n 8,.K [0,1,5,6,7,8] [27,605,607,608,609]] rfl ⟨⟨⟨⟨⟨⟨tt_,p⟩,rfl⟩,⟨Qj,QbA z Qj,QaZ,Qcb Qj⟩⟩,(QhE gA _ _ _ A)⟩,(Stp.delete (e:=V.I) (f:=(QL gA)) (l:=m) (k:=c) rfl rfl rfl rfl rfl QmA Qmz)⟩,(Qfa gA _ _ _ B)⟩ ?_
   cases h
   exact QaR rfl rfl
  refine Qa hC [.F,.n 2,.K [5] [27,605,607,608,609]] rfl ⟨tt_,p⟩ ?_
  cases h
  exact QaM rfl (an_ rfl rfl)
 obtain⟨M,N,P,U⟩:=J
 replace h:Qdr M N P U=some r:=h
 rintro e σ ⟨rfl,rfl⟩
 refine tg_ hC [.n 9,.K [4] [27,605,607,608,609],.ren 27 600] rfl ?_
 cases h
 exact d1_ rfl rfl ⟨rfl,rfl,rfl,rfl,rfl,tt_⟩
def Qej (e:Int)(f:(List (Int×Bool)))(a:Qe)(b:(List (Option Nat)))(c:(List (Int×(Option Nat))))(d:(List Qf)):Option ((Int×(List (Int×Bool))×(List (Option Nat))×(List (Int×(Option Nat)))×(List Qf))⊕((List (Option Nat))×(List (Int×(Option Nat)))×(List Qf))):=
 some (.inl ((w64 (e+1)),(QcU ltI f a.Id true),b,c,d))
def Qbd (h:(List Qe))(d:Int)(e:(List (Int×Bool)))(f:(List (Option Nat)))(g:(List (Int×(Option Nat))))(b:(List Qf)):Option ((Int×(List (Int×Bool))×(List (Option Nat))×(List (Int×(Option Nat)))×(List Qf))⊕((List (Option Nat))×(List (Int×(Option Nat)))×(List Qf))):=
 bif (decide (d<(h.length:Int)))then
 (idx h d).bind fun a=>
 bif ((!((Qaq e a.Id).getD false))&&(decide (0<a.Until)))then
 (Qcd f g a.Id a.Until b).bind fun c=>
 Qej d e a c.2.1 c.2.2.2 c.2.2.1
 else
 Qej d e a f g b
 else
 some (.inr (f,g,b))
def QfV (a:Int)(b:(List (Option Nat)))(c:(List (Int×(Option Nat))))(d:(List Qf)):Option (List Int):=
 (Qev b c a d).bind fun e=>
 some e.1
def QeJ (c:(List Qe))(a:Int):Option (List Int):=
 (Qik).bind fun b=>
 (QK (fun st=>Qbd c st.1 st.2.1 st.2.2.1 st.2.2.2.1 st.2.2.2.2) (0,([]:(List (Int×Bool))),([]:List (Option Nat)),b.1,b.2)).bind (fun q=>QfV a q.1 q.2.1 q.2.2)
theorem QfW (gA:Nat→Nat)(t:(List Qe))(c:Int){r:(List Int)}(h:QeJ t c=some r):Qh prog 19 [.sl 11 (t.map Qb),.I c] [] (Qp (.own 600 r.length) [(600,.arr 1 (r.map Qr))]):=by
 refine Qh.walk 40 func19 rfl rfl rfl fun C hC=>?_
 obtain⟨U,G,h⟩:=Qd h
 refine Qa hC [.n 7,.cm (.fn) [] [(9,1),(602,3),(603,601)] [] [] [(1,.map (QF V.I (QL gA) U.1)),(3,.var [.lit (.slice none 0 0),.map 1]),(601,.tbl gA 3 (U.2.map Qi))] (.loc 3 0 0),.n 6,.O 10 (.map (QF V.I V.b ([]:(List (Int×Bool))))),.n 7,.o (.ln t.length),.n 4,.adoptO 602 0 604 1,.O 604 (.arr 1 (([]:List (Option Nat)).map (QA gA))),.O 602 (.var [.own 604 ([]:List (Option Nat)).length,.map 9]),.K [1,5,6,11,12,13] [9,10,602,603,604]] rfl ⟨⟨⟨⟨⟨tt_,(QlB gA  G)⟩,rfl⟩,Qj⟩,rfl⟩,(congrArg (fun n=>Ob.var [.own 604 n,.map 9]) (by simp))⟩ ?_
 obtain⟨H,A,h⟩:=Qd h
 refine AK.loop (body:=(fun st=>Qbd t st.1 st.2.1 st.2.2.1 st.2.2.2.1 st.2.2.2.2)) (fun st σ=>∃gA:Nat→Nat,σ=⟨[(1,.I c),(5,.loc 602 0 0),(6,.map 10),(11,.sl 11 (t.map Qb)),(12,.I (t.length:Int)),(13,.I st.1)],[(9,.map (QF V.I (QL gA) st.2.2.2.1)),(10,.map (QF V.I V.b st.2.1)),(602,.var [.own 604 st.2.2.1.length,.map 9]),(603,.tbl gA 3 (st.2.2.2.2.map Qi)),(604,.arr 1 (st.2.2.1.map (QA gA)))]⟩) (fun q e σ=>e=.exit 0∧∃gA:Nat→Nat,σ=⟨[(1,.I c),(5,.loc 602 0 0)],[(9,.map (QF V.I (QL gA) q.2.1)),(602,.var [.own 604 q.1.length,.map 9]),(603,.tbl gA 3 (q.2.2.map Qi)),(604,.arr 1 (q.1.map (QA gA)))]⟩) A (ex_ _ rfl) ?_ ?_
 ·rintro ⟨J,j,W,Y,L⟩ o σ ⟨gA,rfl⟩ h
  refine tg_ hC [.n 6] rfl ?_
  rcases QB h with⟨m,h⟩|⟨m,h⟩
  ·obtain⟨a,B,h⟩:=Qd h
   refine Qa hC [.T,.n 6,.o (.row (Qb a)),.v .no [] (.agg (Qb a)),.n 2,.O 8 (.var (Qb a)),.n 2] rfl ⟨⟨⟨⟨tt_,m⟩,(Qar B)⟩,rfl⟩,rfl⟩ ?_
   refine AK.meet (fun σ=>∃gA:Nat→Nat,∃u:(List (Option Nat)),∃w:(List (Int×(Option Nat))),∃y:(List Qf),σ=⟨[(1,.I c),(5,.loc 602 0 0),(6,.map 10),(8,.loc 8 0 0),(11,.sl 11 (t.map Qb)),(12,.I (t.length:Int)),(13,.I J)],[(8,.var (Qb a)),(9,.map (QF V.I (QL gA) w)),(10,.map (QF V.I V.b j)),(602,.var [.own 604 u.length,.map 9]),(603,.tbl gA 3 (y.map Qi)),(604,.arr 1 (u.map (QA gA)))]⟩∧Qej J j a u w y=some o) ?_ ?_
   ·refine tg_ hC [.n 1] rfl ?_
    refine AK.meetX (fun σ=>σ=⟨[(1,.I c),(5,.loc 602 0 0),(6,.map 10),(8,.loc 8 0 0),(11,.sl 11 (t.map Qb)),(12,.I (t.length:Int)),(13,.I J),(26,.b ((!((Qaq j a.Id).getD false))&&(decide (0<a.Until))))],[(8,.var (Qb a)),(9,.map (QF V.I (QL gA) Y)),(10,.map (QF V.I V.b j)),(602,.var [.own 604 W.length,.map 9]),(603,.tbl gA 3 (L.map Qi)),(604,.arr 1 (W.map (QA gA)))]⟩) ?_ ?_
    ·refine Qa hC [.n 4,.o (.any (.b ((Qaq j a.Id).getD false)) none),.n 2] rfl ⟨tt_,(fun σ X Z _=>Stp.lookup (e:=V.I) (f:=V.b) (l:=j) (k:=a.Id) (z:=false) rfl rfl (Qt hC.n rfl) (X _ _ rfl) (Z _ _ rfl) (X _ _ rfl) QoS Qmz Qp5 rfl)⟩ ?_
     rcases Qa6 (!((Qaq j a.Id).getD false))with g | g
     ·refine Qa hC [.S 22 (.b true),.n 5,.S 26 (.b ((!((Qaq j a.Id).getD false))&&(decide (0<a.Until)))),.K [1,5,6,8,11,12,13,26] [8,9,10,602,603,604]] rfl ⟨(tc_ g),(congrArg V.b (QjD g rfl))⟩ ?_
      exact AK.met rfl
     refine Qa hC [.S 22 (.b false),.n 5,.S 26 (.b ((!((Qaq j a.Id).getD false))&&(decide (0<a.Until)))),.K [1,5,6,8,11,12,13,26] [8,9,10,602,603,604]] rfl ⟨(tc_ g),(congrArg V.b (QjE g rfl))⟩ ?_
     exact AK.met rfl
    rintro σ rfl
    refine tg_ hC [.n 1] rfl ?_
    rcases QB h with⟨p,h⟩|⟨p,h⟩
    ·obtain⟨s,D,h⟩:=Qd h
     refine Qa hC [.T,.n 6] rfl ⟨tt_,p⟩ ?_
     refine AK.callE (ι:=Nat→Nat) (Φ:=fun _=>True) [(607,602),(605,604),(608,9),(606,603)] [(604,605),(603,606),(602,607),(9,608)] [604,603] [.d,.d,.d] (fun gA=>[(605,.arr 1 (s.2.1.map (QA gA))),(606,.tbl gA 3 (s.2.2.1.map Qi)),(607,.var [.own 605 s.2.1.length,.map 608]),(608,.map (QF V.I (QL gA) s.2.2.2))]) (fun gA=>.I s.1) (fun gA=>_) rfl hC (Qaj.fn rfl (by kernel_rfl) rfl) rfl (Qt hC.n rfl) rfl rfl (QhD gA _ _ _ _ _ D) (fun gA=>ex_ _ rfl) fun gA _=>?_
     refine tg_ hC [.n 1,.K [1,5,6,8,11,12,13] [8,9,10,602,603,604]] rfl ?_
     exact AK.met (ex_ _ (ex_ _ (ex_ _ (ex_ _ (an_ rfl h)))))
    refine Qa hC [.F,.n 1,.K [1,5,6,8,11,12,13] [8,9,10,602,603,604]] rfl ⟨tt_,p⟩ ?_
    exact AK.met (ex_ _ (ex_ _ (ex_ _ (ex_ _ (an_ rfl h)))))
   rintro σ ⟨gA,u,w,y,rfl,h⟩
   refine Qa hC [.n 4,.x (fun σ=>σ.set 10 (.map (QF V.I V.b (QcU ltI j a.Id true)))),.n 7,.K [1,5,6,11,12,13] [9,10,602,603,604]] rfl ⟨tt_,(Stp.mapUpdate (e:=V.I) (f:=V.b) (l:=j) (k:=a.Id) (v:=true) ltI rfl rfl rfl rfl rfl rfl QoS Qmz rfl)⟩ ?_
   cases h
   exact QaR rfl (ex_ _ rfl)
  refine Qa hC [.F,.n 2,.K [1,5] [9,602,603,604]] rfl ⟨tt_,m⟩ ?_
  cases h
  exact QaM rfl (an_ rfl (ex_ _ rfl))
 obtain⟨M,N,P⟩:=H
 replace h:QfV c M N P=some r:=h
 rintro e σ ⟨rfl,gA,rfl⟩
 obtain⟨i,E,h⟩:=Qd h
 refine Qa hC [.n 6,.cm (.fn) [(607,602),(605,604),(608,9),(609,603)] [(39,600),(604,605),(602,607),(9,608),(603,609)] [604] [.d,.d] [(600,.arr 1 (i.1.map Qr)),(605,.arr 1 (i.2.1.map (QA gA))),(607,.var [.own 605 i.2.1.length,.map 608]),(608,.map (QF V.I (QL gA) i.2.2.1)),(609,.tbl gA 3 (i.2.2.2.map Qi))] (.own 600 i.1.length),.n 4,.K [4] [39],.ren 39 600] rfl ⟨tt_,(Qje gA _ _ _ _ E)⟩ ?_
 cases h
 exact d1_ rfl rfl ⟨rfl,tt_⟩
def QbZ (c:(List Int))(d:(List Int))(a:Int):Option (Int⊕(Unit⊕Unit)):=
 bif (decide (a<(c.length:Int)))then
 (idx c a).bind fun e=>
 (idx d a).bind fun b=>
 bif (e != b)then
 some (.inr (.inl ()))
 else
 some (.inl (w64 (a+1)))
 else
 some (.inr (.inr ()))
def QfA : Option Bool:=
 some false
def QfB : Option Bool:=
 some true
def QbU (a:(List Int))(b:(List Int)):Option Bool:=
 bif ((a.length:Int) != (b.length:Int))then
 some false
 else
 (QK (fun st=>QbZ a b st) 0).bind (Sum.elim (fun q=>QfA) (fun q=>QfB))
theorem Qb0 (g i){r}(h:QbU g i=some r):Qh prog 18 [.sl 1 (g.map Qr),.sl 1 (i.map Qr)] [] (Qp (.b r) []):=by
 refine Qh.walk 26 func18 rfl rfl rfl fun C hC=>?_
 refine Qa hC [.n 9,.o (.ln g.length),.n 1,.o (.ln i.length),.n 3] rfl ⟨⟨tt_,Qj⟩,Qj⟩ ?_
 refine bg_ h (fun d h=>Qa hC [.T,.n 7,.K [4] []] rfl ⟨tt_,d⟩ ?_) fun d h=>Qa hC [.F,.n 9,.K [0,1,5] []] rfl ⟨tt_,d⟩ ?_
 ·cases h
  exact d1_ rfl rfl tt_
 obtain⟨l,j,h⟩:=Qd h
 refine AK.loop (body:=(fun st=>QbZ g i st)) (fun st σ=>σ=⟨[(0,.sl 1 (g.map Qr)),(1,.sl 1 (i.map Qr)),(5,.I st)],[]⟩) (Sum.elim (fun q e σ=>e=.ret∧σ=⟨[(4,.b false)],[]⟩) (fun q e σ=>e=.exit 0∧σ=⟨[],[]⟩)) j rfl ?_ ?_
 ·rintro t o σ rfl h
  refine Qa hC [.n 5,.o (.ln g.length),.n 3] rfl ⟨tt_,Qj⟩ ?_
  rcases QB h with⟨f,h⟩|⟨f,h⟩
  ·obtain⟨s,m,h⟩:=Qd h
   obtain⟨p,k,h⟩:=Qd h
   refine Qa hC [.T,.n 5,.K [0,1,5] []] rfl ⟨tt_,f⟩ ?_
   refine AK.draw2 Qk hC mixed [.N,.N,.a (.row (Qr s)) none false,.N,.N,.N,.a (.row (Qr p)) none false,.N,.N] [] [] [0,1,5,25] [] rfl rfl rfl ⟨⟨tt_,(Qar m)⟩,(Qar k)⟩ rfl (by kernel_rfl) rfl rfl rfl ?_
   refine tg_ hC [.n 1] rfl ?_
   refine bg_ h (fun c h=>Qa hC [.T,.n 8,.K [4] []] rfl ⟨tt_,c⟩ ?_) fun c h=>Qa hC [.F,.n 8,.K [0,1,5] []] rfl ⟨tt_,c⟩ ?_
   ·cases h
    exact QfS rfl (an_ rfl rfl)
   cases h
   exact QaR rfl rfl
  refine Qa hC [.F,.n 2,.K [] []] rfl ⟨tt_,f⟩ ?_
  cases h
  exact QaM rfl (an_ rfl rfl)
 rcases l with(_ | _)
 ·replace h:QfA=some r:=h
  rintro e σ ⟨rfl,rfl⟩
  refine tg_ hC [.n 2] rfl ?_
  cases h
  exact d1_ rfl rfl tt_
 replace h:QfB=some r:=h
 rintro e σ ⟨rfl,rfl⟩
 refine tg_ hC [.n 8] rfl ?_
 cases h
 exact d1_ rfl rfl tt_
def QcO (c:Int)(a:Int)(b:Int):Option Bool:=
 some ((decide (a≤c))&&(decide (c≤b)))
theorem Qds (e a c){r}(h:QcO e a c=some r):Qh prog 89 [.I e,.I a,.I c] [] (Qp (.b r) []):=by
 refine Qh.walk 15 func89 rfl rfl rfl fun C hC=>?_
 refine tg_ hC [.n 6] rfl ?_
 refine AK.meetX (fun σ=>σ=⟨[(6,.b ((decide (a≤e))&&(decide (e≤c))))],[]⟩) ?_ ?_
 ·refine tg_ hC [.n 5] rfl ?_
  rcases Qa6 (decide (a≤e))with d | d
  ·refine Qa hC [.S 10 (.b true),.n 6,.S 6 (.b ((decide (a≤e))&&(decide (e≤c)))),.K [6] []] rfl ⟨(tc_ d),(congrArg V.b (QjD d rfl))⟩ ?_
   exact AK.met rfl
  refine Qa hC [.S 10 (.b false),.n 6,.S 6 (.b ((decide (a≤e))&&(decide (e≤c)))),.K [6] []] rfl ⟨(tc_ d),(congrArg V.b (QjE d rfl))⟩ ?_
  exact AK.met rfl
 rintro σ rfl
 refine tg_ hC [.n 2] rfl ?_
 cases h
 exact d1_ rfl rfl tt_
def QjU (a:QV):Option Int:=
 some (w64 ((w64 (a.Open+a.Done))+a.Failed))
theorem Qk6 (a){r}(h:QjU a=some r):Qh prog 90 [.agg (QT a)] [] (Qp (.I r) []):=by
 refine Qh.walk 11 func90 rfl rfl rfl fun C hC=>?_
 refine tg_ hC [.n 20] rfl ?_
 cases h
 exact d1_ rfl rfl tt_
def QfC (a:QV):Option Bool:=
 (QcO a.Most 1 16).bind fun b=>
 bif (!b)then
 some true
 else
 (QcO a.Enough 1 a.Most).bind fun c=>
 some (!c)
def Qad (a:QV)(b:Int):Option (Int⊕(Unit⊕Unit)):=
 bif (decide (b<(([a.Open,a.Done,a.Failed]:List Int).length:Int)))then
 (idx ([a.Open,a.Done,a.Failed]:List Int) b).bind fun c=>
 (QcO c 0 a.Most).bind fun d=>
 bif (!d)then
 some (.inr (.inl ()))
 else
 some (.inl (w64 (b+1)))
 else
 some (.inr (.inr ()))
def QhV : Option Bool:=
 some false
def QhW (c:QV):Option Bool:=
 (QjU c).bind fun a=>
 (QcO a 1 c.Most).bind fun b=>
 some b
def Qbo (a:QV)(b:Bool):Option Bool:=
 bif b then
 some false
 else
 (QK (fun st=>Qad a st) 0).bind (Sum.elim (fun q=>QhV) (fun q=>QhW a))
def Qa8 (a:QV):Option Bool:=
 (QfC a).bind (fun b=>Qbo a b)
theorem QhX (f){r}(h:Qa8 f=some r):Qh prog 50 [.agg (QT f)] [] (Qp (.b r) []):=by
 refine Qh.walk 40 func50 rfl rfl rfl fun C hC=>?_
 refine tg_ hC [.n 8] rfl ?_
 obtain⟨u,w,h⟩:=Qd h
 replace h:Qbo f u=some r:=h
 refine AK.meetX (fun σ=>σ=⟨[(1,.loc 1 0 0),(16,.b u)],[(1,.var (QT f))]⟩) ?_ ?_
 ·replace h:=w
  obtain⟨G,x,h⟩:=Qd h
  refine Qa hC [.n 3,.o (.c false [.d,.d,.d] (.b G)),.n 2] rfl ⟨tt_,(Qds _ _ _ x)⟩ ?_
  rcases QB h with⟨j,h⟩|⟨j,h⟩
  ·refine Qa hC [.S 9 (.b true),.n 8,.K [1,16] [1]] rfl (tc_ j) ?_
   cases h
   exact AK.met rfl
  obtain⟨H,y,h⟩:=Qd h
  refine Qa hC [.S 9 (.b false),.n 4,.o (.c false [.d,.d,.d] (.b H)),.n 3,.K [1,16] [1]] rfl ⟨(tc_ j),(Qds _ _ _ y)⟩ ?_
  cases h
  exact AK.met rfl
 rintro σ rfl
 replace h:Qbo f u=some r:=h
 refine tg_ hC [.n 1] rfl ?_
 refine bg_ h (fun k h=>Qa hC [.T,.n 7,.K [2] []] rfl ⟨tt_,k⟩ ?_) fun k h=>Qa hC [.F,.n 11,.v (.bd []) [] (.sl 1 (([f.Open,f.Done,f.Failed]:List Int).map Qr)),.o (.ln ([f.Open,f.Done,f.Failed]:List Int).length),.n 4,.K [1,23,24,25] [1]] rfl ⟨⟨⟨tt_,k⟩,rfl⟩,Qj⟩ ?_
 ·cases h
  exact d1_ rfl rfl tt_
 obtain⟨z,l,h⟩:=Qd h
 refine AK.loop (body:=(fun st=>Qad f st)) (fun st σ=>σ=⟨[(1,.loc 1 0 0),(23,.sl 1 (([f.Open,f.Done,f.Failed]:List Int).map Qr)),(24,.I (([f.Open,f.Done,f.Failed]:List Int).length:Int)),(25,.I st)],[(1,.var (QT f))]⟩) (Sum.elim (fun q e σ=>e=.ret∧σ=⟨[(2,.b false)],[]⟩) (fun q e σ=>e=.exit 0∧σ=⟨[(1,.loc 1 0 0)],[(1,.var (QT f))]⟩)) l rfl ?_ ?_
 ·rintro J o σ rfl h
  refine tg_ hC [.n 6] rfl ?_
  rcases QB h with⟨g,h⟩|⟨g,h⟩
  ·obtain⟨A,m,h⟩:=Qd h
   obtain⟨B,p,h⟩:=Qd h
   refine Qa hC [.T,.n 6,.o (.row (Qr A)),.n 9,.o (.c false [.d,.d,.d] (.b B)),.n 3] rfl ⟨⟨⟨tt_,g⟩,(Qar m)⟩,(Qds _ _ _ p)⟩ ?_
   refine bg_ h (fun i h=>Qa hC [.T,.n 8,.K [2] []] rfl ⟨tt_,i⟩ ?_) fun i h=>Qa hC [.F,.n 7,.K [1,23,24,25] [1]] rfl ⟨tt_,i⟩ ?_
   ·cases h
    exact QfS rfl (an_ rfl rfl)
   cases h
   exact QaR rfl rfl
  refine Qa hC [.F,.n 2,.K [1] [1]] rfl ⟨tt_,g⟩ ?_
  cases h
  exact QaM rfl (an_ rfl rfl)
 rcases z with(_ | _)
 ·replace h:QhV=some r:=h
  rintro e σ ⟨rfl,rfl⟩
  refine tg_ hC [.n 2] rfl ?_
  cases h
  exact d1_ rfl rfl tt_
 replace h:QhW f=some r:=h
 rintro e σ ⟨rfl,rfl⟩
 obtain⟨D,s,h⟩:=Qd h
 obtain⟨E,t,h⟩:=Qd h
 refine tg_ hC [.n 3,.K [1] [1]] rfl ?_
 refine AK.draw2 Qk hC mixed [.a .no (some ([],.agg (QT f))) false,.a (.c false [.d] (.I D)) none false,.N,.N,.a (.c false [.d,.d,.d] (.b E)) none false,.N] [] [] [2] [] rfl rfl rfl ⟨⟨⟨tt_,rfl⟩,(Qk6 _ s)⟩,(Qds _ _ _ t)⟩ rfl (by kernel_rfl) rfl rfl rfl ?_
 refine tg_ hC [.n 2] rfl ?_
 cases h
 exact d1_ rfl rfl tt_
def QfX (a:QV):Option Bool:=
 (Qa8 a).bind fun b=>
 bif b then
 bif (decide (a.Enough≤a.Done))then
 some true
 else
 some (a.Open==0)
 else
 some false
def Qek (a:Bool):Option Bool:=
 some a
def Qcl (a:QV):Option Bool:=
 (QfX a).bind (fun b=>Qek b)
theorem QlC (f){r}(h:Qcl f=some r):Qh prog 51 [.agg (QT f)] [] (Qp (.b r) []):=by
 refine Qh.walk 17 func51 rfl rfl rfl fun C hC=>?_
 refine tg_ hC [.n 7] rfl ?_
 obtain⟨g,i,h⟩:=Qd h
 replace h:Qek g=some r:=h
 refine AK.meetX (fun σ=>σ=⟨[(2,.b g)],[]⟩) ?_ ?_
 ·replace h:=i
  obtain⟨k,j,h⟩:=Qd h
  refine Qa hC [.n 1,.v .no [] (.agg (QT f)),.o (.c false [.d] (.b k)),.n 1] rfl ⟨⟨tt_,rfl⟩,(QhX _ j)⟩ ?_
  refine bg_ h (fun a h=>Qa hC [.S 5 (.b true),.n 6] rfl (tc_ a) ?_) fun a h=>Qa hC [.S 5 (.b false),.n 13,.K [2] []] rfl (tc_ a) ?_
  ·refine bg_ h (fun e h=>Qa hC [.S 11 (.b true),.n 7,.K [2] []] rfl (tc_ e) ?_) fun e h=>Qa hC [.S 11 (.b false),.n 7,.K [2] []] rfl (tc_ e) ?_
   ·cases h
    exact AK.met rfl
   cases h
   exact AK.met rfl
  cases h
  exact AK.met rfl
 rintro σ rfl
 replace h:Qek g=some r:=h
 refine tg_ hC [.n 2] rfl ?_
 cases h
 exact d1_ rfl rfl tt_
def QeW (a:Qe)(b:Int)(next_2:Int):Option Bool:=
 bif (decide (a.Id≤b))then
 some true
 else
 bif (decide (next_2≤a.Id))then
 some true
 else
 bif (decide (a.Until<0))then
 some true
 else
 (Qa8 a.Batch).bind fun c=>
 bif (!c)then
 some true
 else
 (Qcl a.Batch).bind fun d=>
 some d
def Qdt (a:Qe)(c:Int)(b:Bool):Option ((Int×Int)⊕(Unit⊕Unit)):=
 bif b then
 some (.inr (.inl ()))
 else
 some (.inl (a.Id,(w64 (c+1))))
def Qa9 (e:(List Qe))(next_2:Int)(a:Int)(c:Int):Option ((Int×Int)⊕(Unit⊕Unit)):=
 bif (decide (c<(e.length:Int)))then
 (idx e c).bind fun b=>
 (QeW b a next_2).bind (fun d=>Qdt b c d)
 else
 some (.inr (.inr ()))
def Qht : Option Bool:=
 some false
def Qhu (a:(List Qe)):Option Bool:=
 some (decide ((a.length:Int)≤64))
def QcP (a:(List Qe))(next_2:Int):Option Bool:=
 (QK (fun st=>Qa9 a next_2 st.1 st.2) (0,0)).bind (Sum.elim (fun q=>Qht) (fun q=>Qhu a))
theorem QeX (f next_2){r}(h:QcP f next_2=some r):Qh prog 21 [.sl 11 (f.map Qb),.I next_2] [] (Qp (.b r) []):=by
 refine Qh.walk 46 func21 rfl rfl rfl fun C hC=>?_
 refine Qa hC [.n 14,.o (.ln f.length),.n 4,.K [0,1,5,8,9,10] []] rfl ⟨tt_,Qj⟩ ?_
 obtain⟨y,s,h⟩:=Qd h
 refine AK.loop (body:=(fun st=>Qa9 f next_2 st.1 st.2)) (fun st σ=>σ=⟨[(0,.sl 11 (f.map Qb)),(1,.I next_2),(5,.I st.1),(8,.sl 11 (f.map Qb)),(9,.I (f.length:Int)),(10,.I st.2)],[]⟩) (Sum.elim (fun q e σ=>e=.ret∧σ=⟨[(4,.b false)],[]⟩) (fun q e σ=>e=.exit 0∧σ=⟨[(0,.sl 11 (f.map Qb))],[]⟩)) s rfl ?_ ?_
 ·rintro ⟨z,A⟩ o σ rfl h
  refine tg_ hC [.n 6] rfl ?_
  rcases QB h with⟨m,h⟩|⟨m,h⟩
  ·obtain⟨a,t,h⟩:=Qd h
   refine Qa hC [.T,.n 6,.o (.row (Qb a)),.v .no [] (.agg (Qb a)),.n 2,.O 7 (.var (Qb a)),.n 4] rfl ⟨⟨⟨⟨tt_,m⟩,(Qar t)⟩,rfl⟩,rfl⟩ ?_
   obtain⟨p,u,h⟩:=Qd h
   replace h:Qdt a A p=some o:=h
   refine AK.meetX (fun σ=>σ=⟨[(0,.sl 11 (f.map Qb)),(1,.I next_2),(7,.loc 7 0 0),(8,.sl 11 (f.map Qb)),(9,.I (f.length:Int)),(10,.I A),(39,.b p)],[(7,.var (Qb a))]⟩) ?_ ?_
   ·replace h:=u
    refine tg_ hC [.n 6] rfl ?_
    refine bg_ h (fun g h=>Qa hC [.S 18 (.b true),.n 22,.K [0,1,7,8,9,10,39] [7]] rfl (tc_ g) ?_) fun g h=>Qa hC [.S 18 (.b false),.n 6] rfl (tc_ g) ?_
    ·cases h
     exact AK.met rfl
    refine bg_ h (fun i h=>Qa hC [.S 24 (.b true),.n 16,.K [0,1,7,8,9,10,39] [7]] rfl (tc_ i) ?_) fun i h=>Qa hC [.S 24 (.b false),.n 5] rfl (tc_ i) ?_
    ·cases h
     exact AK.met rfl
    rcases QB h with⟨j,h⟩|⟨j,h⟩
    ·refine Qa hC [.S 29 (.b true),.n 11,.K [0,1,7,8,9,10,39] [7]] rfl (tc_ j) ?_
     cases h
     exact AK.met rfl
    obtain⟨B,w,h⟩:=Qd h
    refine Qa hC [.S 29 (.b false),.n 1,.v .no [] (.agg (QT a.Batch)),.o (.c false [.d] (.b B)),.n 3] rfl ⟨⟨(tc_ j),rfl⟩,(QhX _ w)⟩ ?_
    rcases QB h with⟨k,h⟩|⟨k,h⟩
    ·refine Qa hC [.S 35 (.b true),.n 5,.K [0,1,7,8,9,10,39] [7]] rfl (tc_ k) ?_
     cases h
     exact AK.met rfl
    obtain⟨D,x,h⟩:=Qd h
    refine Qa hC [.S 35 (.b false),.n 1,.v .no [] (.agg (QT a.Batch)),.o (.c false [.d] (.b D)),.n 2,.K [0,1,7,8,9,10,39] [7]] rfl ⟨⟨(tc_ k),rfl⟩,(QlC _ x)⟩ ?_
    cases h
    exact AK.met rfl
   rintro σ rfl
   replace h:Qdt a A p=some o:=h
   refine tg_ hC [.n 1] rfl ?_
   refine bg_ h (fun l h=>Qa hC [.T,.n 9,.K [4] []] rfl ⟨tt_,l⟩ ?_) fun l h=>Qa hC [.F,.n 13,.K [0,1,5,8,9,10] []] rfl ⟨tt_,l⟩ ?_
   ·cases h
    exact QfS rfl (an_ rfl rfl)
   cases h
   exact QaR rfl rfl
  refine Qa hC [.F,.n 2,.K [0] []] rfl ⟨tt_,m⟩ ?_
  cases h
  exact QaM rfl (an_ rfl rfl)
 rcases y with(_ | _)
 ·replace h:Qht=some r:=h
  rintro e σ ⟨rfl,rfl⟩
  refine tg_ hC [.n 2] rfl ?_
  cases h
  exact d1_ rfl rfl tt_
 replace h:Qhu f=some r:=h
 rintro e σ ⟨rfl,rfl⟩
 refine Qa hC [.n 5,.o (.ln f.length),.n 5] rfl ⟨tt_,Qj⟩ ?_
 cases h
 exact d1_ rfl rfl tt_
def QcF (c:QBg)(e:QBg)(b:Int):Option (Int⊕(Unit⊕Unit)):=
 bif (decide (b<(c.length:Int)))then
 (idx c b).bind fun d=>
 (idx e b).bind fun a=>
 bif (!((d.1==a.1)&&(d.2==a.2)))then
 some (.inr (.inl ()))
 else
 some (.inl (w64 (b+1)))
 else
 some (.inr (.inr ()))
def QcG : Option Bool:=
 some false
def QcH : Option Bool:=
 some true
def Qdb (a:QBg)(b:QBg):Option Bool:=
 bif ((a.length:Int) != (b.length:Int))then
 some false
 else
 (QK (fun st=>QcF a b st) 0).bind (Sum.elim (fun q=>QcG) (fun q=>QcH))
theorem Qfc (f j){r}(h:Qdb f j=some r):Qh prog 96 [.sl 2 (f.map Qv),.sl 2 (j.map Qv)] [] (Qp (.b r) []):=by
 refine Qh.walk 26 func96 rfl rfl rfl fun C hC=>?_
 refine Qa hC [.n 9,.o (.ln f.length),.n 1,.o (.ln j.length),.n 3] rfl ⟨⟨tt_,Qj⟩,Qj⟩ ?_
 refine bg_ h (fun g h=>Qa hC [.T,.n 7,.K [4] []] rfl ⟨tt_,g⟩ ?_) fun g h=>Qa hC [.F,.n 6,.o (.ln f.length),.n 4,.K [0,1,12,13] []] rfl ⟨⟨tt_,g⟩,Qj⟩ ?_
 ·cases h
  exact d1_ rfl rfl tt_
 obtain⟨p,k,h⟩:=Qd h
 refine AK.loop (body:=(fun st=>QcF f j st)) (fun st σ=>σ=⟨[(0,.sl 2 (f.map Qv)),(1,.sl 2 (j.map Qv)),(12,.I (f.length:Int)),(13,.I st)],[]⟩) (Sum.elim (fun q e σ=>e=.ret∧σ=⟨[(4,.b false)],[]⟩) (fun q e σ=>e=.exit 0∧σ=⟨[],[]⟩)) k rfl ?_ ?_
 ·rintro u o σ rfl h
  refine tg_ hC [.n 6] rfl ?_
  rcases QB h with⟨i,h⟩|⟨i,h⟩
  ·obtain⟨m,s,h⟩:=Qd h
   obtain⟨d,l,h⟩:=Qd h
   refine Qa hC [.T,.n 11,.K [0,1,5,12,13] []] rfl ⟨tt_,i⟩ ?_
   refine AK.draw2 Qk hC mixed [.N,.N,.a (.row (Qv m)) none false,.a .no (some ([],.agg (Qv m))) false,.N,.N,.a (.row (Qv d)) none false,.a .no (some ([],.agg (Qv d))) false,.a (.any (.b (!((m.1==d.1)&&(m.2==d.2)))) none) none false] [] [] [0,1,12,13,24] [] rfl rfl rfl ⟨⟨⟨⟨⟨tt_,(Qar s)⟩,rfl⟩,(Qar l)⟩,rfl⟩,(fun σ t v _=>Stp.neAgg rfl rfl (Qt hC.n rfl) (t _ _ rfl) (t _ _ rfl) rfl rfl (QpM _ _ _ _))⟩ rfl (by kernel_rfl) rfl rfl rfl ?_
   refine tg_ hC [.n 1] rfl ?_
   refine bg_ h (fun c h=>Qa hC [.T,.n 8,.K [4] []] rfl ⟨tt_,c⟩ ?_) fun c h=>Qa hC [.F,.n 7,.K [0,1,12,13] []] rfl ⟨tt_,c⟩ ?_
   ·cases h
    exact QfS rfl (an_ rfl rfl)
   cases h
   exact QaR rfl rfl
  refine Qa hC [.F,.n 2,.K [] []] rfl ⟨tt_,i⟩ ?_
  cases h
  exact QaM rfl (an_ rfl rfl)
 rcases p with(_ | _)
 ·replace h:QcG=some r:=h
  rintro e σ ⟨rfl,rfl⟩
  refine tg_ hC [.n 2] rfl ?_
  cases h
  exact d1_ rfl rfl tt_
 replace h:QcH=some r:=h
 rintro e σ ⟨rfl,rfl⟩
 refine tg_ hC [.n 8] rfl ?_
 cases h
 exact d1_ rfl rfl tt_
def QhY (a:QBg)(b:QBg):Option Bool:=
 (Qdb a b).bind fun c=>
 some c
theorem QjV (e f){r}(h:QhY e f=some r):Qh prog 63 [.sl 2 (e.map Qv),.sl 2 (f.map Qv)] [] (Qp (.b r) []):=by
 refine Qh.walk 8 func63 rfl rfl rfl fun C hC=>?_
 obtain⟨g,a,h⟩:=Qd h
 refine Qa hC [.n 9,.o (.c false [.d,.d] (.b g)),.n 4] rfl ⟨tt_,(Qfc _ _ a)⟩ ?_
 cases h
 exact d1_ rfl rfl tt_
def Qan (d:QMk)(e:QMk)(a:Int):Option (Int⊕(Unit⊕Unit)):=
 bif (decide (a<(d.length:Int)))then
 (idx d a).bind fun f=>
 (idx e a).bind fun b=>
 (QhY f b).bind fun c=>
 bif (!c)then
 some (.inr (.inl ()))
 else
 some (.inl (w64 (a+1)))
 else
 some (.inr (.inr ()))
def Qao : Option Bool:=
 some false
def Qap : Option Bool:=
 some true
def QaA (a:QMk)(b:QMk):Option Bool:=
 bif ((a.length:Int) != (b.length:Int))then
 some false
 else
 (QK (fun st=>Qan a b st) 0).bind (Sum.elim (fun q=>Qao) (fun q=>Qap))
theorem Qbh (f j){r}(h:QaA f j=some r):Qh prog 62 [.sl 1 (f.map Qam),.sl 1 (j.map Qam),.clo (.func 63) [] []] [] (Qp (.b r) []):=by
 refine Qh.walk 32 func62 rfl rfl rfl fun C hC=>?_
 refine Qa hC [.n 9,.o (.ln f.length),.n 1,.o (.ln j.length),.n 3] rfl ⟨⟨tt_,Qj⟩,Qj⟩ ?_
 refine bg_ h (fun g h=>Qa hC [.T,.n 7,.K [6] []] rfl ⟨tt_,g⟩ ?_) fun g h=>Qa hC [.F,.n 6,.o (.ln f.length),.n 4,.K [1,2,15,16,17] []] rfl ⟨⟨tt_,g⟩,Qj⟩ ?_
 ·cases h
  exact d1_ rfl rfl tt_
 obtain⟨p,k,h⟩:=Qd h
 refine AK.loop (body:=(fun st=>Qan f j st)) (fun st σ=>σ=⟨[(1,.sl 1 (j.map Qam)),(2,.clo (.func 63) [] []),(15,.sl 1 (f.map Qam)),(16,.I (f.length:Int)),(17,.I st)],[]⟩) (Sum.elim (fun q e σ=>e=.ret∧σ=⟨[(6,.b false)],[]⟩) (fun q e σ=>e=.exit 0∧σ=⟨[],[]⟩)) k rfl ?_ ?_
 ·rintro w o σ rfl h
  refine tg_ hC [.n 6] rfl ?_
  rcases QB h with⟨i,h⟩|⟨i,h⟩
  ·obtain⟨v,s,h⟩:=Qd h
   obtain⟨t,l,h⟩:=Qd h
   obtain⟨u,m,h⟩:=Qd h
   refine Qa hC [.T,.n 7,.o (.row (Qam v)),.n 9,.o (.row (Qam t)),.n 9,.o (.c false [.d,.d] (.b u)),.n 3] rfl ⟨⟨⟨⟨tt_,i⟩,(Qar s)⟩,(Qar l)⟩,(QjV _ _ m)⟩ ?_
   refine bg_ h (fun a h=>Qa hC [.T,.n 8,.K [6] []] rfl ⟨tt_,a⟩ ?_) fun a h=>Qa hC [.F,.n 7,.K [1,2,15,16,17] []] rfl ⟨tt_,a⟩ ?_
   ·cases h
    exact QfS rfl (an_ rfl rfl)
   cases h
   exact QaR rfl rfl
  refine Qa hC [.F,.n 2,.K [] []] rfl ⟨tt_,i⟩ ?_
  cases h
  exact QaM rfl (an_ rfl rfl)
 rcases p with(_ | _)
 ·replace h:Qao=some r:=h
  rintro e σ ⟨rfl,rfl⟩
  refine tg_ hC [.n 2] rfl ?_
  cases h
  exact d1_ rfl rfl tt_
 replace h:Qap=some r:=h
 rintro e σ ⟨rfl,rfl⟩
 refine tg_ hC [.n 8] rfl ?_
 cases h
 exact d1_ rfl rfl tt_
def QdU (c:(List Int))(d:(List Int))(a:Int):Option (Int⊕(Unit⊕Unit)):=
 bif (decide (a<(c.length:Int)))then
 (idx c a).bind fun e=>
 (idx d a).bind fun b=>
 bif (e != b)then
 some (.inr (.inl ()))
 else
 some (.inl (w64 (a+1)))
 else
 some (.inr (.inr ()))
def QdV : Option Bool:=
 some false
def QdW : Option Bool:=
 some true
def QbP (a:(List Int))(b:(List Int)):Option Bool:=
 bif ((a.length:Int) != (b.length:Int))then
 some false
 else
 (QK (fun st=>QdU a b st) 0).bind (Sum.elim (fun q=>QdV) (fun q=>QdW))
theorem Qcf (d i){r}(h:QbP d i=some r):Qh prog 79 [.sl 1 (d.map Qr),.sl 1 (i.map Qr)] [] (Qp (.b r) []):=by
 refine Qh.walk 26 func79 rfl rfl rfl fun C hC=>?_
 refine Qa hC [.n 9,.o (.ln d.length),.n 1,.o (.ln i.length),.n 3] rfl ⟨⟨tt_,Qj⟩,Qj⟩ ?_
 refine bg_ h (fun f h=>Qa hC [.T,.n 7,.K [4] []] rfl ⟨tt_,f⟩ ?_) fun f h=>Qa hC [.F,.n 6,.o (.ln d.length),.n 4,.K [0,1,12,13] []] rfl ⟨⟨tt_,f⟩,Qj⟩ ?_
 ·cases h
  exact d1_ rfl rfl tt_
 obtain⟨l,j,h⟩:=Qd h
 refine AK.loop (body:=(fun st=>QdU d i st)) (fun st σ=>σ=⟨[(0,.sl 1 (d.map Qr)),(1,.sl 1 (i.map Qr)),(12,.I (d.length:Int)),(13,.I st)],[]⟩) (Sum.elim (fun q e σ=>e=.ret∧σ=⟨[(4,.b false)],[]⟩) (fun q e σ=>e=.exit 0∧σ=⟨[],[]⟩)) j rfl ?_ ?_
 ·rintro t o σ rfl h
  refine tg_ hC [.n 6] rfl ?_
  rcases QB h with⟨g,h⟩|⟨g,h⟩
  ·obtain⟨s,m,h⟩:=Qd h
   obtain⟨p,k,h⟩:=Qd h
   refine Qa hC [.T,.n 11,.K [0,1,5,12,13] []] rfl ⟨tt_,g⟩ ?_
   refine AK.draw2 Qk hC mixed [.N,.N,.a (.row (Qr s)) none false,.N,.N,.N,.a (.row (Qr p)) none false,.N,.N] [] [] [0,1,12,13,24] [] rfl rfl rfl ⟨⟨tt_,(Qar m)⟩,(Qar k)⟩ rfl (by kernel_rfl) rfl rfl rfl ?_
   refine tg_ hC [.n 1] rfl ?_
   refine bg_ h (fun c h=>Qa hC [.T,.n 8,.K [4] []] rfl ⟨tt_,c⟩ ?_) fun c h=>Qa hC [.F,.n 7,.K [0,1,12,13] []] rfl ⟨tt_,c⟩ ?_
   ·cases h
    exact QfS rfl (an_ rfl rfl)
   cases h
   exact QaR rfl rfl
  refine Qa hC [.F,.n 2,.K [] []] rfl ⟨tt_,g⟩ ?_
  cases h
  exact QaM rfl (an_ rfl rfl)
 rcases l with(_ | _)
 ·replace h:QdV=some r:=h
  rintro e σ ⟨rfl,rfl⟩
  refine tg_ hC [.n 2] rfl ?_
  cases h
  exact d1_ rfl rfl tt_
 replace h:QdW=some r:=h
 rintro e σ ⟨rfl,rfl⟩
 refine tg_ hC [.n 8] rfl ?_
 cases h
 exact d1_ rfl rfl tt_
def Qjq (a:Qe)(b:Qe):Option Bool:=
 bif (a.Id==b.Id)then
 bif ((a.Batch.Most==b.Batch.Most)&&((a.Batch.Enough==b.Batch.Enough)&&((a.Batch.Open==b.Batch.Open)&&((a.Batch.Done==b.Batch.Done)&&(a.Batch.Failed==b.Batch.Failed)))))then
 bif (a.Until==b.Until)then
 bif (a.Mode.Task==b.Mode.Task)then
 (QbP a.Mode.Vars b.Mode.Vars).bind fun c=>
 bif c then
 (QbP a.Mode.Ins b.Mode.Ins).bind fun d=>
 bif d then
 (QbP a.Mode.Outs b.Mode.Outs).bind fun e=>
 some e
 else
 some false
 else
 some false
 else
 some false
 else
 some false
 else
 some false
 else
 some false
def QdL (a:Bool):Option Bool:=
 some a
def Qhv (a:Qe)(b:Qe):Option Bool:=
 (Qjq a b).bind (fun c=>QdL c)
theorem Qjr (g i){r}(h:Qhv g i=some r):Qh prog 65 [.agg (Qb g),.agg (Qb i)] [] (Qp (.b r) []):=by
 refine Qh.walk 58 func65 rfl rfl rfl fun C hC=>?_
 refine tg_ hC [.n 8,.K [2,3] [2,3]] rfl ?_
 refine AK.draw2 Qk hC mixed [.N,.a .no (some ([],.agg (QU g.Mode))) false,.a .no none true,.a .no (some ([],.agg (QU i.Mode))) true,.N,.N,.m .s,.m .s] [2,3] [2,3] [2,3,5,6] [2,3,5,6] rfl rfl rfl ⟨⟨tt_,rfl⟩,rfl⟩ rfl (by kernel_rfl) rfl rfl rfl ?_
 refine Qa hC [.O 5 (.var (QU g.Mode)),.O 6 (.var (QU i.Mode)),.n 2] rfl ⟨⟨tt_,rfl⟩,rfl⟩ ?_
 obtain⟨w,x,h⟩:=Qd h
 replace h:QdL w=some r:=h
 refine AK.meetX (fun σ=>σ=⟨[(4,.b w)],[]⟩) ?_ ?_
 ·replace h:=x
  refine tg_ hC [.n 7] rfl ?_
  refine bg_ h (fun j h=>Qa hC [.S 16 (.b true),.n 1,.v .no [] (.agg (QT g.Batch)),.n 1,.v .no [] (.agg (QT i.Batch)),.o (.any (.b ((g.Batch.Most==i.Batch.Most)&&((g.Batch.Enough==i.Batch.Enough)&&((g.Batch.Open==i.Batch.Open)&&((g.Batch.Done==i.Batch.Done)&&(g.Batch.Failed==i.Batch.Failed)))))) none),.n 2] rfl ⟨⟨⟨(tc_ j),rfl⟩,rfl⟩,(fun σ B D _=>Stp.eqAgg rfl rfl (Qt hC.n rfl) (B _ _ rfl) (B _ _ rfl) rfl rfl (QoR _ _ _ _ _ _ _ _ _ _))⟩ ?_) fun j h=>Qa hC [.S 16 (.b false),.n 43,.K [4] []] rfl (tc_ j) ?_
  ·refine bg_ h (fun k h=>Qa hC [.S 23 (.b true),.n 7] rfl (tc_ k) ?_) fun k h=>Qa hC [.S 23 (.b false),.n 36,.K [4] []] rfl (tc_ k) ?_
   ·refine bg_ h (fun l h=>Qa hC [.S 30 (.b true),.n 7] rfl (tc_ l) ?_) fun l h=>Qa hC [.S 30 (.b false),.n 29,.K [4] []] rfl (tc_ l) ?_
    ·rcases QB h with⟨p,h⟩|⟨p,h⟩
     ·obtain⟨y,q,h⟩:=Qd h
      refine Qa hC [.S 37 (.b true),.n 4,.o (.c false [.d,.d] (.b y)),.n 2] rfl ⟨(tc_ p),(Qcf _ _ q)⟩ ?_
      rcases QB h with⟨e,h⟩|⟨e,h⟩
      ·obtain⟨z,t,h⟩:=Qd h
       refine Qa hC [.S 44 (.b true),.n 4,.o (.c false [.d,.d] (.b z)),.n 2] rfl ⟨(tc_ e),(Qcf _ _ t)⟩ ?_
       rcases QB h with⟨f,h⟩|⟨f,h⟩
       ·obtain⟨A,u,h⟩:=Qd h
        refine Qa hC [.S 51 (.b true),.n 4,.o (.c false [.d,.d] (.b A)),.n 3,.K [4] []] rfl ⟨(tc_ f),(Qcf _ _ u)⟩ ?_
        cases h
        exact AK.met rfl
       refine Qa hC [.S 51 (.b false),.n 8,.K [4] []] rfl (tc_ f) ?_
       cases h
       exact AK.met rfl
      refine Qa hC [.S 44 (.b false),.n 15,.K [4] []] rfl (tc_ e) ?_
      cases h
      exact AK.met rfl
     refine Qa hC [.S 37 (.b false),.n 22,.K [4] []] rfl (tc_ p) ?_
     cases h
     exact AK.met rfl
    cases h
    exact AK.met rfl
   cases h
   exact AK.met rfl
  cases h
  exact AK.met rfl
 rintro σ rfl
 replace h:QdL w=some r:=h
 refine tg_ hC [.n 2] rfl ?_
 cases h
 exact d1_ rfl rfl tt_
def QaB (d:(List Qe))(e:(List Qe))(a:Int):Option (Int⊕(Unit⊕Unit)):=
 bif (decide (a<(d.length:Int)))then
 (idx d a).bind fun f=>
 (idx e a).bind fun b=>
 (Qhv f b).bind fun c=>
 bif (!c)then
 some (.inr (.inl ()))
 else
 some (.inl (w64 (a+1)))
 else
 some (.inr (.inr ()))
def QaC : Option Bool:=
 some false
def QaD : Option Bool:=
 some true
def QaN (a:(List Qe))(b:(List Qe)):Option Bool:=
 bif ((a.length:Int) != (b.length:Int))then
 some false
 else
 (QK (fun st=>QaB a b st) 0).bind (Sum.elim (fun q=>QaC) (fun q=>QaD))
theorem QbC (g k){r}(h:QaN g k=some r):Qh prog 64 [.sl 11 (g.map Qb),.sl 11 (k.map Qb),.clo (.func 65) [] []] [] (Qp (.b r) []):=by
 refine Qh.walk 32 func64 rfl rfl rfl fun C hC=>?_
 refine Qa hC [.n 9,.o (.ln g.length),.n 1,.o (.ln k.length),.n 3] rfl ⟨⟨tt_,Qj⟩,Qj⟩ ?_
 refine bg_ h (fun i h=>Qa hC [.T,.n 7,.K [6] []] rfl ⟨tt_,i⟩ ?_) fun i h=>Qa hC [.F,.n 6,.o (.ln g.length),.n 4,.K [1,2,15,16,17] []] rfl ⟨⟨tt_,i⟩,Qj⟩ ?_
 ·cases h
  exact d1_ rfl rfl tt_
 obtain⟨t,l,h⟩:=Qd h
 refine AK.loop (body:=(fun st=>QaB g k st)) (fun st σ=>σ=⟨[(1,.sl 11 (k.map Qb)),(2,.clo (.func 65) [] []),(15,.sl 11 (g.map Qb)),(16,.I (g.length:Int)),(17,.I st)],[]⟩) (Sum.elim (fun q e σ=>e=.ret∧σ=⟨[(6,.b false)],[]⟩) (fun q e σ=>e=.exit 0∧σ=⟨[],[]⟩)) l rfl ?_ ?_
 ·rintro x o σ rfl h
  refine tg_ hC [.n 6] rfl ?_
  rcases QB h with⟨j,h⟩|⟨j,h⟩
  ·obtain⟨s,u,h⟩:=Qd h
   obtain⟨f,m,h⟩:=Qd h
   obtain⟨w,p,h⟩:=Qd h
   refine Qa hC [.T,.n 7,.o (.row (Qb s)),.v .no [] (.agg (Qb s)),.n 3,.O 8 (.var (Qb s)),.n 6,.o (.row (Qb f)),.v .no [] (.agg (Qb f)),.n 2,.O 9 (.var (Qb f)),.n 5,.v .no [] (.agg (Qb s)),.v .no [] (.agg (Qb f)),.o (.c false [.d,.d] (.b w)),.n 3] rfl ⟨⟨⟨⟨⟨⟨⟨⟨⟨⟨tt_,j⟩,(Qar u)⟩,rfl⟩,rfl⟩,(Qar m)⟩,rfl⟩,rfl⟩,rfl⟩,rfl⟩,(Qjr _ _ p)⟩ ?_
   refine bg_ h (fun a h=>Qa hC [.T,.n 8,.K [6] []] rfl ⟨tt_,a⟩ ?_) fun a h=>Qa hC [.F,.n 7,.K [1,2,15,16,17] []] rfl ⟨tt_,a⟩ ?_
   ·cases h
    exact QfS rfl (an_ rfl rfl)
   cases h
   exact QaR rfl rfl
  refine Qa hC [.F,.n 2,.K [] []] rfl ⟨tt_,j⟩ ?_
  cases h
  exact QaM rfl (an_ rfl rfl)
 rcases t with(_ | _)
 ·replace h:QaC=some r:=h
  rintro e σ ⟨rfl,rfl⟩
  refine tg_ hC [.n 2] rfl ?_
  cases h
  exact d1_ rfl rfl tt_
 replace h:QaD=some r:=h
 rintro e σ ⟨rfl,rfl⟩
 refine tg_ hC [.n 8] rfl ?_
 cases h
 exact d1_ rfl rfl tt_
def Qk7 (a:QbY)(b:QbY):Option Bool:=
 bif (a.Next==b.Next)then
 bif (a.Now==b.Now)then
 (QaA a.M b.M).bind fun d=>
 bif d then
 (QaN a.Items b.Items).bind fun c=>
 some c
 else
 some false
 else
 some false
 else
 some false
def QfD (a:Bool):Option Bool:=
 some a
def QjW (a:QbY)(b:QbY):Option Bool:=
 (Qk7 a b).bind (fun c=>QfD c)
theorem Qk8 (l m){r}(h:QjW l m=some r):Qh prog 28 [.agg (Qaf l),.agg (Qaf m)] [] (Qp (.b r) []):=by
 refine Qh.walk 31 func28 rfl rfl rfl fun C hC=>?_
 refine tg_ hC [.n 8] rfl ?_
 obtain⟨g,i,h⟩:=Qd h
 replace h:QfD g=some r:=h
 refine AK.meetX (fun σ=>σ=⟨[(4,.b g)],[]⟩) ?_ ?_
 ·replace h:=i
  refine tg_ hC [.n 7] rfl ?_
  refine bg_ h (fun a h=>Qa hC [.S 10 (.b true),.n 7] rfl (tc_ a) ?_) fun a h=>Qa hC [.S 10 (.b false),.n 22,.K [4] []] rfl (tc_ a) ?_
  ·rcases QB h with⟨c,h⟩|⟨c,h⟩
   ·obtain⟨o,j,h⟩:=Qd h
    refine Qa hC [.S 17 (.b true),.n 4,.cm (.fn) [] [] [] [.d,.d,.d] [] (.b o),.n 2] rfl ⟨(tc_ c),(Qbh _ _ j)⟩ ?_
    rcases QB h with⟨e,h⟩|⟨e,h⟩
    ·obtain⟨k,f,h⟩:=Qd h
     refine Qa hC [.S 24 (.b true),.n 4,.cm (.fn) [] [] [] [.d,.d,.d] [] (.b k),.n 3,.K [4] []] rfl ⟨(tc_ e),(QbC _ _ f)⟩ ?_
     cases h
     exact AK.met rfl
    refine Qa hC [.S 24 (.b false),.n 8,.K [4] []] rfl (tc_ e) ?_
    cases h
    exact AK.met rfl
   refine Qa hC [.S 17 (.b false),.n 15,.K [4] []] rfl (tc_ c) ?_
   cases h
   exact AK.met rfl
  cases h
  exact AK.met rfl
 rintro σ rfl
 replace h:QfD g=some r:=h
 refine tg_ hC [.n 2] rfl ?_
 cases h
 exact d1_ rfl rfl tt_
def Qkz (a:(List Qe))(o:(List Int))(b:(Int×QbM))(d:(Int×QbM))(c:(Int×QbY)):Option Bool:=
 bif ((a.length:Int)==3)then
 (idx a 0).bind fun e=>
 bif (e.Id==2)then
 (idx a 2).bind fun f=>
 bif (f.Id==9)then
 (Qc8 a 5).bind fun g=>
 bif (g==1)then
 (Qc8 a 4).bind fun h=>
 bif (h==(-1))then
 (QeJ a 3).bind fun i=>
 (QbU i ([9,2,5]:List Int)).bind fun j=>
 bif j then
 (QcP a 10).bind fun k=>
 bif k then
 (QcP a 9).bind fun l=>
 bif (!l)then
 (Qct a 5).bind fun m=>
 bif ((m.length:Int)==2)then
 bif ((o.length:Int)==56)then
 bif (b.2.Do==6)then
 bif (b.1==0)then
 bif (d.1==4)then
 bif (c.1==0)then
 (QjW c.2 (QbY.mk ([([(1,2)]:List (Int×Int)),([]:QBg)]:List QBg) a 10 4)).bind fun n=>
 some n
 else
 some false
 else
 some false
 else
 some false
 else
 some false
 else
 some false
 else
 some false
 else
 some false
 else
 some false
 else
 some false
 else
 some false
 else
 some false
 else
 some false
 else
 some false
 else
 some false
def QeY (a:Bool):Option Bool:=
 some a
def QgE  : Option Bool:=
 (Qfs 5 3).bind fun h=>
 (QbN ([]:List Qe) h).bind fun i=>
 (Qfs 2 3).bind fun j=>
 (QbN i j).bind fun k=>
 (Qfs 9 1).bind fun l=>
 (QbN k l).bind fun g=>
 (Qgr (QbM.mk 6 0 (Qac.mk 0 ([]:(List Int)) ([]:(List Int)) ([]:(List Int))) 0)).bind fun a=>
 bif ((a.length:Int) != 56)then
 some false
 else
 (Qd5 a).bind fun b=>
 (chk (decide (0≤1)&&decide (1≤a.length)&&decide (a.length≤a.length))).bind fun _=>
 (Qd5 ((a.drop 1).take (a.length-1))).bind fun c=>
 (Qgs (QbY.mk ([([(1,2)]:List (Int×Int)),([]:QBg)]:List QBg) g 10 4)).bind fun d=>
 (Qgu d).bind fun e=>
 (Qkz g a b c e).bind (fun f=>QeY f)
theorem QkA  {r:Bool}(h:QgE  = some r):Qh prog 9 [] [] (Qp (.b r) []):=by
 refine Qh.walk 118 func9 rfl rfl rfl fun C hC=>?_
 obtain⟨x3,a6,h⟩:=Qd h
 obtain⟨x4,a7,h⟩:=Qd h
 obtain⟨x5,a8,h⟩:=Qd h
 obtain⟨x6,a9,h⟩:=Qd h
 obtain⟨x7,b0,h⟩:=Qd h
 obtain⟨z,b1,h⟩:=Qd h
 obtain⟨H,b2,h⟩:=Qd h
 refine Qa hC [.n 7,.o (.c false [.d,.d] (.agg (Qb x3))),.o (.co false [.n 11,.d] 11 (x4.map Qb) x4.length),.o (.c false [.d,.d] (.agg (Qb x5))),.frz 11 (x4.map Qb) [11] [],.o (.co false [.d,.d] 11 (x6.map Qb) x6.length),.o (.c false [.d,.d] (.agg (Qb x7))),.frz 13 (x6.map Qb) [13] [],.o (.co false [.d,.d] 11 (z.map Qb) z.length),.n 5,.v .no [none,none,none,some 1,some 1,some 1,none] (.agg (QX (QbM.mk 6 0 (Qac.mk 0 ([]:(List Int)) ([]:(List Int)) ([]:(List Int))) 0))),.o (.co false [.d] 1 (H.map Qs) H.length),.n 11] rfl ⟨⟨⟨⟨⟨⟨⟨⟨⟨⟨tt_,(Qft _ _ a6)⟩,⟨(QbE _ _ a7),Qj,.inl rfl⟩⟩,(Qft _ _ a8)⟩,⟨tt_,(QbT Qj)⟩⟩,⟨(QbE _ _ a9),Qj,.inl rfl⟩⟩,(Qft _ _ b0)⟩,⟨tt_,(QbT Qj)⟩⟩,⟨(QbE _ _ b1),Qj,.inl rfl⟩⟩,rfl⟩,⟨(Qiy _ b2),Qj,.inl rfl⟩⟩ ?_
 rcases QB h with⟨a,h⟩|⟨a,h⟩
 ·refine Qa hC [.T,.n 7] rfl ⟨tt_,a⟩ ?_
  cases h
  exact d1_ rfl rfl tt_
 obtain⟨A,J,h⟩:=Qd h
 obtain⟨y,h⟩:=QaV h
 obtain⟨B,L,h⟩:=Qd h
 obtain⟨D,M,h⟩:=Qd h
 obtain⟨x,N,h⟩:=Qd h
 refine Qa hC [.F,.n 5,.frz 17 (H.map Qs) [2,17,18,22] [],.o (.c false [.d] (.tup [.agg (QX A.2),.I A.1])),.n 5,.O 3 (.var (QX A.2)),.n 6,.o (.any (.sl 1 (((H.drop 1).take (H.length-1)).map Qs)) none),.o (.c false [.d] (.tup [.agg (QX B.2),.I B.1])),.n 5,.O 5 (.var (QX B.2)),.n 5,.v .no [] (.agg (Qv (1,2))),.v (.bd []) [] (.sl 2 (([(1,2)]:List (Int×Int)).map Qv)),.v (.bd [none,some 2]) [] (.sl 1 (([([(1,2)]:List (Int×Int)),([]:QBg)]:List QBg).map Qam)),.n 1,.v .no [] (.agg [.sl 1 (([([(1,2)]:List (Int×Int)),([]:QBg)]:List QBg).map Qam),.own 15 z.length,.I 10,.I 4]),.n 2,.O 7 (.var [.sl 1 (([([(1,2)]:List (Int×Int)),([]:QBg)]:List QBg).map Qam),.own 15 z.length,.I 10,.I 4]),.n 5,.frz 15 (z.map Qb) [1,15,35,36,38] [7],.cm (.fn) [] [(39,600)] [] [.d] [(600,.arr 1 (D.map Qs))] (.own 600 D.length),.frz 39 (D.map Qs) [39] [],.o (.c false [.d] (.tup [.agg (Qaf x.2),.I x.1])),.n 5,.O 8 (.var (Qaf x.2)),.n 4] rfl ⟨⟨⟨⟨⟨⟨⟨⟨⟨⟨⟨⟨⟨⟨⟨⟨⟨tt_,a⟩,⟨⟨⟨⟨tt_,(QbT Qj)⟩,(QbT Qj)⟩,(QbT Qj)⟩,(QbT Qj)⟩⟩,(Qe6 _ J)⟩,rfl⟩,(fun σ h1 h2 _=>Stp.sliceD rfl rfl (Qt hC.n rfl) (h1 _ _ rfl) (Qk.es rfl) (Bnd.val (h1 _ _ rfl) (Qal (Qgl y)) rfl) (Bnd.none_ Qj) (Qal (Qgm y)) (QgP Qj.symm) QhP)⟩,(Qe6 _ L)⟩,rfl⟩,rfl⟩,rfl⟩,rfl⟩,rfl⟩,rfl⟩,⟨⟨⟨⟨⟨⟨tt_,(QbT Qj)⟩,(QbT Qj)⟩,(QbT Qj)⟩,⟨(QbT Qj),tt_⟩⟩,⟨(QbT Qj),tt_⟩⟩,⟨(QbT Qj),tt_⟩⟩⟩,(QiA _ M)⟩,⟨tt_,(QbT Qj)⟩⟩,(QiD _ N)⟩,rfl⟩ ?_
 obtain⟨E,P,h⟩:=Qd h
 replace h:QeY E=some r:=h
 refine AK.meetX (fun σ=>σ=⟨[(0,.b E)],[]⟩) ?_ ?_
 ·replace h:=P
  refine Qa hC [.n 2,.o (.ln z.length),.n 2] rfl ⟨tt_,Qj⟩ ?_
  rcases QB h with⟨e,h⟩|⟨e,h⟩
  ·obtain⟨b3,U,h⟩:=Qd h
   refine Qa hC [.S 46 (.b true),.n 1,.o (.row (Qb b3)),.n 5] rfl ⟨(tc_ e),(Qar U)⟩ ?_
   rcases QB h with⟨f,h⟩|⟨f,h⟩
   ·obtain⟨b4,W,h⟩:=Qd h
    refine Qa hC [.S 53 (.b true),.n 1,.o (.row (Qb b4)),.n 5] rfl ⟨(tc_ f),(Qar W)⟩ ?_
    rcases QB h with⟨g,h⟩|⟨g,h⟩
    ·obtain⟨b5,X,h⟩:=Qd h
     refine Qa hC [.S 60 (.b true),.n 1,.o (.c false [.d,.d] (.I b5)),.n 3] rfl ⟨(tc_ g),(QcS _ _ X)⟩ ?_
     rcases QB h with⟨i,h⟩|⟨i,h⟩
     ·obtain⟨b6,Y,h⟩:=Qd h
      refine Qa hC [.S 65 (.b true),.n 1,.o (.c false [.d,.d] (.I b6)),.n 3] rfl ⟨(tc_ i),(QcS _ _ Y)⟩ ?_
      rcases QB h with⟨j,h⟩|⟨j,h⟩
      ·obtain⟨G,Z,h⟩:=Qd h
       obtain⟨b7,a0,h⟩:=Qd h
       refine Qa hC [.S 70 (.b true),.n 1,.o (.co false [.d,.d] 1 (G.map Qr) G.length),.v (.bd []) [] (.sl 1 (([9,2,5]:List Int).map Qr)),.o (.c true [.o (G.map Qr),.d] (.b b7)),.n 2] rfl ⟨⟨⟨(tc_ j),⟨(QfW (fun _=>0) _ _ Z),Qj,.inl rfl⟩⟩,rfl⟩,⟨(Qka rfl),(Qb0 _ _ a0)⟩⟩ ?_
       rcases QB h with⟨k,h⟩|⟨k,h⟩
       ·obtain⟨b8,a1,h⟩:=Qd h
        refine Qa hC [.S 76 (.b true),.n 1,.o (.c false [.d,.d] (.b b8)),.n 2] rfl ⟨(tc_ k),(QeX _ _ a1)⟩ ?_
        rcases QB h with⟨l,h⟩|⟨l,h⟩
        ·obtain⟨b9,a2,h⟩:=Qd h
         refine Qa hC [.S 80 (.b true),.n 1,.o (.c false [.d,.d] (.b b9)),.n 3] rfl ⟨(tc_ l),(QeX _ _ a2)⟩ ?_
         rcases QB h with⟨m,h⟩|⟨m,h⟩
         ·obtain⟨a3,a4,h⟩:=Qd h
          refine Qa hC [.S 85 (.b true),.n 1,.o (.co false [.d,.d] 11 (a3.map Qb) a3.length),.n 4] rfl ⟨(tc_ m),⟨(QhR _ _ a4),Qj,.inl rfl⟩⟩ ?_
          refine bg_ h (fun p h=>Qa hC [.S 91 (.b true),.n 1,.o (.ln H.length),.n 3] rfl ⟨(tc_ p),Qj⟩ ?_) fun p h=>Qa hC [.S 91 (.b false),.n 28,.K [0] []] rfl (tc_ p) ?_
          ·refine bg_ h (fun q h=>Qa hC [.S 96 (.b true),.n 5] rfl (tc_ q) ?_) fun q h=>Qa hC [.S 96 (.b false),.n 23,.K [0] []] rfl (tc_ q) ?_
           ·refine bg_ h (fun s h=>Qa hC [.S 101 (.b true),.n 4] rfl (tc_ s) ?_) fun s h=>Qa hC [.S 101 (.b false),.n 18,.K [0] []] rfl (tc_ s) ?_
            ·refine bg_ h (fun t h=>Qa hC [.S 105 (.b true),.n 4] rfl (tc_ t) ?_) fun t h=>Qa hC [.S 105 (.b false),.n 14,.K [0] []] rfl (tc_ t) ?_
             ·refine bg_ h (fun u h=>Qa hC [.S 109 (.b true),.n 4] rfl (tc_ u) ?_) fun u h=>Qa hC [.S 109 (.b false),.n 10,.K [0] []] rfl (tc_ u) ?_
              ·rcases QB h with⟨w,h⟩|⟨w,h⟩
               ·obtain⟨c0,a5,h⟩:=Qd h
                refine Qa hC [.S 113 (.b true),.v .no [] (.agg (Qaf x.2)),.v .no [] (.agg (Qaf (QbY.mk ([([(1,2)]:List (Int×Int)),([]:QBg)]:List QBg) z 10 4))),.o (.c false [.d,.d] (.b c0)),.n 3,.K [0] []] rfl ⟨⟨⟨(tc_ w),rfl⟩,rfl⟩,(Qk8 _ _ a5)⟩ ?_
                cases h
                exact AK.met rfl
               refine Qa hC [.S 113 (.b false),.n 6,.K [0] []] rfl (tc_ w) ?_
               cases h
               exact AK.met rfl
              cases h
              exact AK.met rfl
             cases h
             exact AK.met rfl
            cases h
            exact AK.met rfl
           cases h
           exact AK.met rfl
          cases h
          exact AK.met rfl
         refine Qa hC [.S 85 (.b false),.n 34,.K [0] []] rfl (tc_ m) ?_
         cases h
         exact AK.met rfl
        refine Qa hC [.S 80 (.b false),.n 39,.K [0] []] rfl (tc_ l) ?_
        cases h
        exact AK.met rfl
       refine Qa hC [.S 76 (.b false),.n 43,.K [0] []] rfl (tc_ k) ?_
       cases h
       exact AK.met rfl
      refine Qa hC [.S 70 (.b false),.n 49,.K [0] []] rfl (tc_ j) ?_
      cases h
      exact AK.met rfl
     refine Qa hC [.S 65 (.b false),.n 54,.K [0] []] rfl (tc_ i) ?_
     cases h
     exact AK.met rfl
    refine Qa hC [.S 60 (.b false),.n 59,.K [0] []] rfl (tc_ g) ?_
    cases h
    exact AK.met rfl
   refine Qa hC [.S 53 (.b false),.n 66,.K [0] []] rfl (tc_ f) ?_
   cases h
   exact AK.met rfl
  refine Qa hC [.S 46 (.b false),.n 73,.K [0] []] rfl (tc_ e) ?_
  cases h
  exact AK.met rfl
 rintro σ rfl
 replace h:QeY E=some r:=h
 refine tg_ hC [.n 2] rfl ?_
 cases h
 exact d1_ rfl rfl tt_
def QbF (b:(List Qe))(f:Int)(a:Int):Option ((Int×Int)⊕Int):=
 bif (decide (a<(b.length:Int)))then
 (idx b a).bind fun c=>
 (idx b a).bind fun d=>
 (idx b a).bind fun e=>
 some (.inl ((w64 ((w64 ((w64 (f+(c.Mode.Vars.length:Int)))+(d.Mode.Ins.length:Int)))+(e.Mode.Outs.length:Int))),(w64 (a+1))))
 else
 some (.inr f)
def QiE (a:Int):Option Bool:=
 some (decide (a≤1000))
def QeK (a:(List Qe)):Option Bool:=
 bif (decide (80<(a.length:Int)))then
 some false
 else
 (QK (fun st=>QbF a st.1 st.2) (0,0)).bind (fun q=>QiE q)
theorem QiF (f){r}(h:QeK f=some r):Qh prog 10 [.sl 11 (f.map Qb)] [] (Qp (.b r) []):=by
 refine Qh.walk 41 func10 rfl rfl rfl fun C hC=>?_
 refine Qa hC [.n 9,.o (.ln f.length),.n 3] rfl ⟨tt_,Qj⟩ ?_
 refine bg_ h (fun d h=>Qa hC [.T,.n 7,.K [2] []] rfl ⟨tt_,d⟩ ?_) fun d h=>Qa hC [.F,.n 14,.K [0,3,4] []] rfl ⟨tt_,d⟩ ?_
 ·cases h
  exact d1_ rfl rfl tt_
 obtain⟨u,g,h⟩:=Qd h
 refine AK.loop (body:=(fun st=>QbF f st.1 st.2)) (fun st σ=>σ=⟨[(0,.sl 11 (f.map Qb)),(3,.I st.1),(4,.I st.2)],[]⟩) (fun q e σ=>e=.exit 0∧σ=⟨[(3,.I q)],[]⟩) g rfl ?_ ?_
 ·rintro ⟨v,w⟩ o σ rfl h
  refine Qa hC [.n 5,.o (.ln f.length),.n 3] rfl ⟨tt_,Qj⟩ ?_
  rcases QB h with⟨c,h⟩|⟨c,h⟩
  ·obtain⟨i,j,h⟩:=Qd h
   obtain⟨k,l,h⟩:=Qd h
   obtain⟨p,t,h⟩:=Qd h
   refine Qa hC [.T,.n 4,.K [0,3,4] []] rfl ⟨tt_,c⟩ ?_
   refine AK.draw2 Qk hC mixed [.N,.N,.N,.a (.row (Qb i)) none false,.N,.N,.N,.a (.ln i.Mode.Vars.length) none false,.N,.N,.N,.a (.row (Qb k)) none false,.N,.N,.N,.a (.ln k.Mode.Ins.length) none false,.N,.N,.N,.a (.row (Qb p)) none false,.N,.N,.N,.a (.ln p.Mode.Outs.length) none false,.N,.m .s] [] [] [0,3,4] [] rfl rfl rfl ⟨⟨⟨⟨⟨⟨tt_,(Qar j)⟩,Qj⟩,(Qar l)⟩,Qj⟩,(Qar t)⟩,Qj⟩ rfl (by kernel_rfl) rfl rfl rfl ?_
   refine tg_ hC [.n 7,.K [0,3,4] []] rfl ?_
   cases h
   exact QaR rfl rfl
  refine Qa hC [.F,.n 2,.K [3] []] rfl ⟨tt_,c⟩ ?_
  cases h
  exact QaM rfl (an_ rfl rfl)
 replace h:QiE u=some r:=h
 rintro e σ ⟨rfl,rfl⟩
 refine tg_ hC [.n 10] rfl ?_
 cases h
 exact d1_ rfl rfl tt_
def QeZ (a:Qac):Option Qac:=
 (chk (decide (([]:List Int).length+a.Vars.length≤4294967296))).bind fun _=>
 (chk (decide (([]:List Int).length+a.Ins.length≤4294967296))).bind fun _=>
 (chk (decide (([]:List Int).length+a.Outs.length≤4294967296))).bind fun _=>
 some (Qac.mk a.Task (([]:List Int)++a.Vars) (([]:List Int)++a.Ins) (([]:List Int)++a.Outs))
theorem Qjs (c){r}(h:QeZ c=some r):Qh prog 83 [.agg (QU c)] [] (Qp (.agg (QU r)) []):=by
 refine Qh.walk 18 func83 rfl rfl rfl fun C hC=>?_
 obtain⟨e,h⟩:=QaV h
 obtain⟨f,h⟩:=QaV h
 obtain⟨g,h⟩:=QaV h
 refine tg_ hC [.n 7,.K [1,2] [1,2]] rfl ?_
 refine AK.draw2 Qk hC mixed [.N,.N,.a (.any .e0 none) none false,.N,.N,.a (.any (.sl 1 (c.Vars.map Qr)) none) none false,.a (.any .e0 none) none false,.N,.N,.a (.any (.sl 1 (c.Ins.map Qr)) none) none false,.a (.any .e0 none) none false,.N,.N,.a (.any (.sl 1 (c.Outs.map Qr)) none) none false,.a .no (some ([],.agg (QU c))) false,.m .s] [] [] [2] [2] rfl rfl rfl ⟨⟨⟨⟨⟨⟨⟨tt_,(fun σ b d _=>Stp.bld0 rfl rfl (Qt hC.n rfl) (Qk.es rfl) (Qk.zv rfl))⟩,(fun σ b d _=>Stp.appE0 rfl rfl (Qt hC.n rfl) (b _ _ rfl) (Qk.es rfl) (Qk.es rfl) (Qk.zv rfl) rfl (by decide) (by decide) (by decide) (by rw [Qdi];simpa using e) (b _ _ rfl))⟩,(fun σ b d _=>Stp.bld0 rfl rfl (Qt hC.n rfl) (Qk.es rfl) (Qk.zv rfl))⟩,(fun σ b d _=>Stp.appE0 rfl rfl (Qt hC.n rfl) (b _ _ rfl) (Qk.es rfl) (Qk.es rfl) (Qk.zv rfl) rfl (by decide) (by decide) (by decide) (by rw [Qdi];simpa using f) (b _ _ rfl))⟩,(fun σ b d _=>Stp.bld0 rfl rfl (Qt hC.n rfl) (Qk.es rfl) (Qk.zv rfl))⟩,(fun σ b d _=>Stp.appE0 rfl rfl (Qt hC.n rfl) (b _ _ rfl) (Qk.es rfl) (Qk.es rfl) (Qk.zv rfl) rfl (by decide) (by decide) (by decide) (by rw [Qdi];simpa using g) (b _ _ rfl))⟩,rfl⟩ rfl (by kernel_rfl) rfl rfl rfl ?_
 refine Qa hC [.O 2 (.var (QU (Qac.mk c.Task (([]:List Int)++c.Vars) (([]:List Int)++c.Ins) (([]:List Int)++c.Outs)))),.n 2,.K [2] [2]] rfl ⟨tt_,rfl⟩ ?_
 cases h
 exact AK.done (ex_ [_] (an_ (an_ (ex_ _ (ex_ _ (an_ rfl (an_ rfl (Or.inl (an_ (Qk.ag rfl) (an_ (Qk.sz rfl) rfl))))))) tt_) (Qas tt_)))
def Qcw (a:Qe):Option Qe:=
 (QeZ a.Mode).bind fun b=>
 some (Qe.mk a.Id b a.Batch a.Until)
theorem QfP (a){r}(h:Qcw a=some r):Qh prog 42 [.agg (Qb a)] [] (Qp (.agg (Qb r)) []):=by
 refine Qh.walk 8 func42 rfl rfl rfl fun C hC=>?_
 obtain⟨b,e,h⟩:=Qd h
 refine Qa hC [.n 9,.v .no [] (.agg (QU a.Mode)),.o (.c false [.d] (.agg (QU b))),.n 2,.O 1 (.var (Qb (Qe.mk a.Id b a.Batch a.Until))),.n 4,.v .no [] (.agg (Qb (Qe.mk a.Id b a.Batch a.Until))),.n 1,.O 2 (.var (Qb (Qe.mk a.Id b a.Batch a.Until))),.n 3,.K [2] [2]] rfl ⟨⟨⟨⟨⟨tt_,rfl⟩,(Qjs _ e)⟩,rfl⟩,rfl⟩,rfl⟩ ?_
 cases h
 exact AK.done (ex_ [_] (an_ (an_ (ex_ _ (ex_ _ (an_ rfl (an_ rfl (Or.inl (an_ (Qk.ag rfl) (an_ (Qk.sz rfl) rfl))))))) tt_) (Qas tt_)))
def QfE (b:Int)(a:(List Qe)):Option ((Int×(List Qe))⊕(List Qe)):=
 some (.inl ((w64 (b+1)),a))
def Qbp (d:(List Qe))(e:Int)(a:Int)(c:(List Qe)):Option ((Int×(List Qe))⊕(List Qe)):=
 bif (decide (a<(d.length:Int)))then
 (idx d a).bind fun f=>
 bif (f.Id != e)then
 (idx d a).bind fun g=>
 (Qcw g).bind fun b=>
 (chk (decide (c.length+([b]:List Qe).length≤4294967296))).bind fun _=>
 QfE a (c++([b]:List Qe))
 else
 QfE a c
 else
 some (.inr c)
def QhZ (a:(List Qe)):Option (List Qe):=
 some a
def Qd9 (b:(List Qe))(a:Int):Option (List Qe):=
 (QK (fun st=>Qbp b a st.1 st.2) (0,([]:List Qe))).bind (fun q=>QhZ q)
theorem Qh0 (j a){r}(h:Qd9 j a=some r):Qh prog 15 [.sl 11 (j.map Qb),.I a] [] (Qp (.own 600 r.length) [(600,.arr 11 (r.map Qb))]):=by
 refine Qh.walk 29 func15 rfl rfl rfl fun C hC=>?_
 refine Qa hC [.n 17,.adopt 5 20 11,.O 20 (.arr 11 (([]:List Qe).map Qb)),.S 5 (.own 20 ([]:List Qe).length),.K [0,1,5,6] [20]] rfl ⟨⟨tt_,rfl⟩,(congrArg (fun n=>V.own 20 n) (by simp))⟩ ?_
 obtain⟨y,k,h⟩:=Qd h
 refine AK.loop (body:=(fun st=>Qbp j a st.1 st.2)) (fun st σ=>σ=⟨[(0,.sl 11 (j.map Qb)),(1,.I a),(5,.own 20 st.2.length),(6,.I st.1)],[(20,.arr 11 (st.2.map Qb))]⟩) (fun q e σ=>e=.exit 0∧σ=⟨[(5,.own 20 q.length)],[(20,.arr 11 (q.map Qb))]⟩) k rfl ?_ ?_
 ·rintro ⟨w,x⟩ o σ rfl h
  refine Qa hC [.n 5,.o (.ln j.length),.n 3] rfl ⟨tt_,Qj⟩ ?_
  refine bg_ h (fun b h=>Qa hC [.T,.n 2] rfl ⟨tt_,b⟩ ?_) fun b h=>Qa hC [.F,.n 2,.K [5] [20]] rfl ⟨tt_,b⟩ ?_
  ·refine AK.meet (fun σ=>∃g:(List Qe),σ=⟨[(0,.sl 11 (j.map Qb)),(1,.I a),(5,.own 20 g.length),(6,.I w)],[(20,.arr 11 (g.map Qb))]⟩∧QfE w g=some o) ?_ ?_
   ·obtain⟨u,l,h⟩:=Qd h
    refine Qa hC [.n 5,.o (.row (Qb u)),.n 6] rfl ⟨tt_,(Qar l)⟩ ?_
    rcases QB h with⟨f,h⟩|⟨f,h⟩
    ·obtain⟨m,p,h⟩:=Qd h
     obtain⟨i,s,h⟩:=Qd h
     obtain⟨t,h⟩:=QaV h
     refine Qa hC [.T,.n 4,.o (.row (Qb m)),.v .no [] (.agg (Qb m)),.o (.c false [.d] (.agg (Qb i))),.v (.bd []) [] (.sl 11 (([i]:List Qe).map Qb)),.app ((x++([i]:List Qe)).map Qb) (x++([i]:List Qe)).length,.n 3,.K [0,1,5,6] [20]] rfl ⟨⟨⟨⟨⟨⟨tt_,f⟩,(Qar p)⟩,rfl⟩,(QfP _ s)⟩,rfl⟩,⟨Qj,QbA t Qj,QaZ,Qcb Qj⟩⟩ ?_
     exact AK.met (ex_ _ (an_ rfl h))
    refine Qa hC [.F,.n 2,.K [0,1,5,6] [20]] rfl ⟨tt_,f⟩ ?_
    exact AK.met (ex_ _ (an_ rfl h))
   rintro σ ⟨g,rfl,h⟩
   refine tg_ hC [.n 5,.K [0,1,5,6] [20]] rfl ?_
   cases h
   exact QaR rfl rfl
  cases h
  exact QaM rfl (an_ rfl rfl)
 replace h:QhZ y=some r:=h
 rintro e σ ⟨rfl,rfl⟩
 refine tg_ hC [.n 9,.K [4] [20],.ren 20 600] rfl ?_
 cases h
 exact d1_ rfl rfl ⟨rfl,tt_⟩
def QfY (b:Int)(c:(List Qe))(d:Qe):Option Bool:=
 bif (decide (b<(c.length:Int)))then
 (idx c b).bind fun a=>
 some (decide (a.Id≤d.Id))
 else
 some false
def Qdc (a:Int)(b:Bool):Option (Int⊕Int):=
 bif b then
 some (.inl (w64 (a+1)))
 else
 some (.inr a)
def QbG (b:(List Qe))(c:Qe)(a:Int):Option (Int⊕Int):=
 (QfY a b c).bind (fun d=>Qdc a d)
def QfZ (b:(List Qe))(d:Qe)(a:Int):Option (List Qe):=
 (chk (decide (0≤a)&&decide (0≤a.toNat)&&decide (a.toNat≤b.length))).bind fun _=>
 (chk (decide (([]:List Qe).length+((b.drop 0).take (a.toNat-0)).length≤4294967296))).bind fun _=>
 (Qcw d).bind fun c=>
 (chk (decide ((([]:List Qe)++((b.drop 0).take (a.toNat-0))).length+([c]:List Qe).length≤4294967296))).bind fun _=>
 (chk (decide (0≤a)&&decide (a.toNat≤b.length)&&decide (b.length≤b.length))).bind fun _=>
 (chk (decide (((([]:List Qe)++((b.drop 0).take (a.toNat-0)))++[c]).length+((b.drop a.toNat).take (b.length-a.toNat)).length≤4294967296))).bind fun _=>
 some (((([]:List Qe)++((b.drop 0).take (a.toNat-0)))++[c])++((b.drop a.toNat).take (b.length-a.toNat)))
def QeL (c:(List Qe))(a:Qe):Option (List Qe):=
 (Qd9 c a.Id).bind fun b=>
 (QK (fun st=>QbG b a st) 0).bind (fun q=>QfZ b a q)
theorem Qdd (L t){r}(h:QeL L t=some r):Qh prog 14 [.sl 11 (L.map Qb),.agg (Qb t)] [] (Qp (.own 600 r.length) [(600,.arr 11 (r.map Qb))]):=by
 refine Qh.walk 40 func14 rfl rfl rfl fun C hC=>?_
 obtain⟨g,D,h⟩:=Qd h
 refine Qa hC [.n 11,.o (.co false [.d,.d] 11 (g.map Qb) g.length),.n 10,.K [3,5,6] [3,10]] rfl ⟨tt_,⟨(Qh0 _ _ D),Qj,.inl rfl⟩⟩ ?_
 obtain⟨i,w,h⟩:=Qd h
 refine AK.loop (body:=(fun st=>QbG g t st)) (fun st σ=>σ=⟨[(3,.loc 3 0 0),(5,.own 10 g.length),(6,.I st)],[(3,.var (Qb t)),(10,.arr 11 (g.map Qb))]⟩) (fun q e σ=>e=.exit 0∧σ=⟨[(3,.loc 3 0 0),(5,.own 10 g.length),(6,.I q)],[(3,.var (Qb t)),(10,.arr 11 (g.map Qb))]⟩) w rfl ?_ ?_
 ·rintro E o σ rfl h
  refine tg_ hC [.n 2] rfl ?_
  obtain⟨G,H,h⟩:=Qd h
  replace h:Qdc E G=some o:=h
  refine AK.meetX (fun σ=>σ=⟨[(3,.loc 3 0 0),(5,.own 10 g.length),(6,.I E),(24,.b G)],[(3,.var (Qb t)),(10,.arr 11 (g.map Qb))]⟩) ?_ ?_
  ·replace h:=H
   refine tg_ hC [.K [3,5,6] [3,10]] rfl ?_
   rcases QB h with⟨k,h⟩|⟨k,h⟩
   ·obtain⟨J,u,h⟩:=Qd h
    refine AK.draw2 Qk hC mixed [.N,.N,.N,.N,.a .no (some ([],.b true)) false,.N,.N,.N,.N,.a (.row (Qb J)) none false,.N,.N,.N,.N] [] [] [3,5,6,24] [3,10] rfl rfl rfl ⟨⟨(tc_ k),(Qbm u rfl)⟩,(QS (Qbk u).2)⟩ rfl (by kernel_rfl) rfl rfl rfl ?_
    refine tg_ hC [.K [3,5,6,24] [3,10]] rfl ?_
    cases h
    exact AK.met rfl
   refine AK.draw2 Qk hC mixed [.N,.N,.N,.N,.a .no (some ([],.b false)) false,.N,.N,.N,.N,.N,.N,.N,.N,.N] [] [] [3,5,6,24] [3,10] rfl rfl rfl (tc_ k) rfl (by kernel_rfl) rfl rfl rfl ?_
   refine tg_ hC [.K [3,5,6,24] [3,10]] rfl ?_
   cases h
   exact AK.met rfl
  rintro σ rfl
  replace h:Qdc E G=some o:=h
  refine tg_ hC [.n 1] rfl ?_
  refine bg_ h (fun p h=>Qa hC [.T,.n 9,.K [3,5,6] [3,10]] rfl ⟨tt_,p⟩ ?_) fun p h=>Qa hC [.F,.n 2,.K [3,5,6] [3,10]] rfl ⟨tt_,p⟩ ?_
  ·cases h
   exact QaR rfl rfl
  cases h
  exact QaM rfl (an_ rfl rfl)
 replace h:QfZ g t i=some r:=h
 rintro e σ ⟨rfl,rfl⟩
 obtain⟨s,h⟩:=QaV h
 obtain⟨x,h⟩:=QaV h
 obtain⟨j,y,h⟩:=Qd h
 obtain⟨z,h⟩:=QaV h
 obtain⟨v,h⟩:=QaV h
 obtain⟨A,h⟩:=QaV h
 refine Qa hC [.n 3,.frz 10 (g.map Qb) [5] [],.K [3,5,6] [3]] rfl ⟨tt_,⟨tt_,(QbT Qj)⟩⟩ ?_
 refine AK.draw2 Qk hC mixed [.N,.N,.N,.a (.any (.sl 11 (((g.drop 0).take (i.toNat-0)).map Qb)) none) none false,.m (.app ((([]:List Qe)++((g.drop 0).take (i.toNat-0))).map Qb) (([]:List Qe)++((g.drop 0).take (i.toNat-0))).length),.a .no (some ([],.agg (Qb t))) true,.a (.c false [.d] (.agg (Qb j))) none false,.a (.bd []) (some ([],.sl 11 (([j]:List Qe).map Qb))) false,.m (.app (((([]:List Qe)++((g.drop 0).take (i.toNat-0)))++[j]).map Qb) ((([]:List Qe)++((g.drop 0).take (i.toNat-0)))++[j]).length),.a .no none true,.a .no none true,.a (.any (.sl 11 (((g.drop i.toNat).take (g.length-i.toNat)).map Qb)) none) none true,.m (.app ((((([]:List Qe)++((g.drop 0).take (i.toNat-0)))++[j])++((g.drop i.toNat).take (g.length-i.toNat))).map Qb) (((([]:List Qe)++((g.drop 0).take (i.toNat-0)))++[j])++((g.drop i.toNat).take (g.length-i.toNat))).length),.N] [3,5,6] [3] [4] [27] rfl rfl rfl ⟨⟨⟨⟨⟨⟨⟨⟨tt_,(fun σ B M _=>Stp.sliceD rfl rfl (Qt hC.n rfl) (B _ _ rfl) (Qk.es rfl) Bnd.no (Bnd.val (B _ _ rfl) (Qal (Qgl s)) rfl) (Qal (Qgm s)) (QaQ (Qal (Qmk s)) (QgP Qj.symm)) QhP)⟩,⟨(Qj (f:=Qb) (l:=([]:List Qe))),QbA x Qj,(QaZ (f:=Qb) (l:=([]:List Qe)) (m:=((g.drop 0).take (i.toNat-0)))),Qcb (l:=([]:List Qe)) Qj⟩⟩,rfl⟩,(QfP _ y)⟩,rfl⟩,⟨Qj,QbA z Qj,QaZ,Qcb Qj⟩⟩,(fun σ B M _=>Stp.sliceD rfl rfl (Qt hC.n rfl) (B _ _ rfl) (Qk.es rfl) (Bnd.val (B _ _ rfl) (Qal (Qgl v)) rfl) (Bnd.none_ Qj) (Qal (Qgm v)) (QgP Qj.symm) QhP)⟩,⟨Qj,QbA A Qj,QaZ,Qcb Qj⟩⟩ rfl (by kernel_rfl) rfl rfl rfl ?_
 refine tg_ hC [.n 2,.K [4] [27],.ren 27 600] rfl ?_
 cases h
 exact d1_ rfl rfl ⟨rfl,tt_⟩
def Qh1 (a:Qac)(b:Qac):Option Bool:=
 bif (a.Task==b.Task)then
 (QbU a.Vars b.Vars).bind fun d=>
 bif d then
 (QbU a.Ins b.Ins).bind fun e=>
 bif e then
 (QbU a.Outs b.Outs).bind fun c=>
 some c
 else
 some false
 else
 some false
 else
 some false
def QdX (a:Bool):Option Bool:=
 some a
def QfF (a:Qac)(b:Qac):Option Bool:=
 (Qh1 a b).bind (fun c=>QdX c)
theorem Qk9 (p q){r}(h:QfF p q=some r):Qh prog 78 [.agg (QU p),.agg (QU q)] [] (Qp (.b r) []):=by
 refine Qh.walk 31 func78 rfl rfl rfl fun C hC=>?_
 refine tg_ hC [.n 8] rfl ?_
 obtain⟨i,j,h⟩:=Qd h
 replace h:QdX i=some r:=h
 refine AK.meetX (fun σ=>σ=⟨[(4,.b i)],[]⟩) ?_ ?_
 ·replace h:=j
  refine tg_ hC [.n 7] rfl ?_
  rcases QB h with⟨e,h⟩|⟨e,h⟩
  ·obtain⟨s,k,h⟩:=Qd h
   refine Qa hC [.S 10 (.b true),.n 4,.o (.c false [.d,.d] (.b s)),.n 2] rfl ⟨(tc_ e),(Qb0 _ _ k)⟩ ?_
   rcases QB h with⟨f,h⟩|⟨f,h⟩
   ·obtain⟨t,l,h⟩:=Qd h
    refine Qa hC [.S 17 (.b true),.n 4,.o (.c false [.d,.d] (.b t)),.n 2] rfl ⟨(tc_ f),(Qb0 _ _ l)⟩ ?_
    rcases QB h with⟨a,h⟩|⟨a,h⟩
    ·obtain⟨m,g,h⟩:=Qd h
     refine Qa hC [.S 24 (.b true),.n 4,.o (.c false [.d,.d] (.b m)),.n 3,.K [4] []] rfl ⟨(tc_ a),(Qb0 _ _ g)⟩ ?_
     cases h
     exact AK.met rfl
    refine Qa hC [.S 24 (.b false),.n 8,.K [4] []] rfl (tc_ a) ?_
    cases h
    exact AK.met rfl
   refine Qa hC [.S 17 (.b false),.n 15,.K [4] []] rfl (tc_ f) ?_
   cases h
   exact AK.met rfl
  refine Qa hC [.S 10 (.b false),.n 22,.K [4] []] rfl (tc_ e) ?_
  cases h
  exact AK.met rfl
 rintro σ rfl
 replace h:QdX i=some r:=h
 refine tg_ hC [.n 2] rfl ?_
 cases h
 exact d1_ rfl rfl tt_
def QfQ (a:Qe)(b:Qe):Option Bool:=
 bif (a.Id==b.Id)then
 bif ((a.Batch.Most==b.Batch.Most)&&((a.Batch.Enough==b.Batch.Enough)&&((a.Batch.Open==b.Batch.Open)&&((a.Batch.Done==b.Batch.Done)&&(a.Batch.Failed==b.Batch.Failed)))))then
 bif (a.Until==b.Until)then
 (QfF a.Mode b.Mode).bind fun c=>
 some c
 else
 some false
 else
 some false
 else
 some false
def QcE (a:Bool):Option Bool:=
 some a
def Qdu (a:Qe)(b:Qe):Option Bool:=
 (QfQ a b).bind (fun c=>QcE c)
theorem Qjt (a e){r}(h:Qdu a e=some r):Qh prog 41 [.agg (Qb a),.agg (Qb e)] [] (Qp (.b r) []):=by
 refine Qh.walk 31 func41 rfl rfl rfl fun C hC=>?_
 refine tg_ hC [.n 8] rfl ?_
 obtain⟨j,k,h⟩:=Qd h
 replace h:QcE j=some r:=h
 refine AK.meetX (fun σ=>σ=⟨[(4,.b j)],[]⟩) ?_ ?_
 ·replace h:=k
  refine tg_ hC [.n 7] rfl ?_
  refine bg_ h (fun f h=>Qa hC [.S 10 (.b true),.n 1,.v .no [] (.agg (QT a.Batch)),.n 1,.v .no [] (.agg (QT e.Batch)),.o (.any (.b ((a.Batch.Most==e.Batch.Most)&&((a.Batch.Enough==e.Batch.Enough)&&((a.Batch.Open==e.Batch.Open)&&((a.Batch.Done==e.Batch.Done)&&(a.Batch.Failed==e.Batch.Failed)))))) none),.n 2] rfl ⟨⟨⟨(tc_ f),rfl⟩,rfl⟩,(fun σ m q _=>Stp.eqAgg rfl rfl (Qt hC.n rfl) (m _ _ rfl) (m _ _ rfl) rfl rfl (QoR _ _ _ _ _ _ _ _ _ _))⟩ ?_) fun f h=>Qa hC [.S 10 (.b false),.n 22,.K [4] []] rfl (tc_ f) ?_
  ·refine bg_ h (fun g h=>Qa hC [.S 17 (.b true),.n 7] rfl (tc_ g) ?_) fun g h=>Qa hC [.S 17 (.b false),.n 15,.K [4] []] rfl (tc_ g) ?_
   ·rcases QB h with⟨i,h⟩|⟨i,h⟩
    ·obtain⟨p,l,h⟩:=Qd h
     refine Qa hC [.S 24 (.b true),.n 1,.v .no [] (.agg (QU a.Mode)),.n 1,.v .no [] (.agg (QU e.Mode)),.o (.c false [.d,.d] (.b p)),.n 3,.K [4] []] rfl ⟨⟨⟨(tc_ i),rfl⟩,rfl⟩,(Qk9 _ _ l)⟩ ?_
     cases h
     exact AK.met rfl
    refine Qa hC [.S 24 (.b false),.n 8,.K [4] []] rfl (tc_ i) ?_
    cases h
    exact AK.met rfl
   cases h
   exact AK.met rfl
  cases h
  exact AK.met rfl
 rintro σ rfl
 replace h:QcE j=some r:=h
 refine tg_ hC [.n 2] rfl ?_
 cases h
 exact d1_ rfl rfl tt_
def QbH (d:(List Qe))(e:(List Qe))(a:Int):Option (Int⊕(Unit⊕Unit)):=
 bif (decide (a<(d.length:Int)))then
 (idx d a).bind fun f=>
 (idx e a).bind fun b=>
 (Qdu f b).bind fun c=>
 bif (!c)then
 some (.inr (.inl ()))
 else
 some (.inl (w64 (a+1)))
 else
 some (.inr (.inr ()))
def Qe0 : Option Bool:=
 some false
def Qe1 : Option Bool:=
 some true
def Qb2 (a:(List Qe))(b:(List Qe)):Option Bool:=
 bif ((a.length:Int) != (b.length:Int))then
 some false
 else
 (QK (fun st=>QbH a b st) 0).bind (Sum.elim (fun q=>Qe0) (fun q=>Qe1))
theorem QbI (j k){r}(h:Qb2 j k=some r):Qh prog 13 [.sl 11 (j.map Qb),.sl 11 (k.map Qb)] [] (Qp (.b r) []):=by
 refine Qh.walk 29 func13 rfl rfl rfl fun C hC=>?_
 refine Qa hC [.n 9,.o (.ln j.length),.n 1,.o (.ln k.length),.n 3] rfl ⟨⟨tt_,Qj⟩,Qj⟩ ?_
 refine bg_ h (fun g h=>Qa hC [.T,.n 7,.K [4] []] rfl ⟨tt_,g⟩ ?_) fun g h=>Qa hC [.F,.n 9,.K [0,1,5] []] rfl ⟨tt_,g⟩ ?_
 ·cases h
  exact d1_ rfl rfl tt_
 obtain⟨t,l,h⟩:=Qd h
 refine AK.loop (body:=(fun st=>QbH j k st)) (fun st σ=>σ=⟨[(0,.sl 11 (j.map Qb)),(1,.sl 11 (k.map Qb)),(5,.I st)],[]⟩) (Sum.elim (fun q e σ=>e=.ret∧σ=⟨[(4,.b false)],[]⟩) (fun q e σ=>e=.exit 0∧σ=⟨[],[]⟩)) l rfl ?_ ?_
 ·rintro x o σ rfl h
  refine Qa hC [.n 5,.o (.ln j.length),.n 3] rfl ⟨tt_,Qj⟩ ?_
  rcases QB h with⟨i,h⟩|⟨i,h⟩
  ·obtain⟨w,u,h⟩:=Qd h
   obtain⟨m,p,h⟩:=Qd h
   obtain⟨v,s,h⟩:=Qd h
   refine Qa hC [.T,.n 5,.K [0,1,5] []] rfl ⟨tt_,i⟩ ?_
   refine AK.draw2 Qk hC mixed [.N,.N,.a (.row (Qb w)) none false,.a .no (some ([],.agg (Qb w))) false,.N,.N,.a (.row (Qb m)) none false,.a .no (some ([],.agg (Qb m))) false,.a (.c false [.d,.d] (.b v)) none false,.N] [] [] [0,1,5,6] [] rfl rfl rfl ⟨⟨⟨⟨⟨tt_,(Qar u)⟩,rfl⟩,(Qar p)⟩,rfl⟩,(Qjt _ _ s)⟩ rfl (by kernel_rfl) rfl rfl rfl ?_
   refine tg_ hC [.n 7] rfl ?_
   refine bg_ h (fun f h=>Qa hC [.T,.n 8,.K [4] []] rfl ⟨tt_,f⟩ ?_) fun f h=>Qa hC [.F,.n 8,.K [0,1,5] []] rfl ⟨tt_,f⟩ ?_
   ·cases h
    exact QfS rfl (an_ rfl rfl)
   cases h
   exact QaR rfl rfl
  refine Qa hC [.F,.n 2,.K [] []] rfl ⟨tt_,i⟩ ?_
  cases h
  exact QaM rfl (an_ rfl rfl)
 rcases t with(_ | _)
 ·replace h:Qe0=some r:=h
  rintro e σ ⟨rfl,rfl⟩
  refine tg_ hC [.n 2] rfl ?_
  cases h
  exact d1_ rfl rfl tt_
 replace h:Qe1=some r:=h
 rintro e σ ⟨rfl,rfl⟩
 refine tg_ hC [.n 8] rfl ?_
 cases h
 exact d1_ rfl rfl tt_
def Qbq (c:(List Qe))(b:Int)(a:Int):Option (Int⊕(Int⊕Unit)):=
 bif (decide (a<(c.length:Int)))then
 (idx c a).bind fun d=>
 bif (d.Id==b)then
 some (.inr (.inl a))
 else
 some (.inl (w64 (a+1)))
 else
 some (.inr (.inr ()))
def Qh2 (a:Int):Option Int:=
 some a
def Qh3 : Option Int:=
 some (-1)
def Qea (b:(List Qe))(a:Int):Option Int:=
 (QK (fun st=>Qbq b a st) 0).bind (Sum.elim (fun q=>Qh2 q) (fun q=>Qh3))
theorem QdY (d b){r}(h:Qea d b=some r):Qh prog 17 [.sl 11 (d.map Qb),.I b] [] (Qp (.I r) []):=by
 refine Qh.walk 20 func17 rfl rfl rfl fun C hC=>?_
 refine tg_ hC [.n 12,.K [0,1,5] []] rfl ?_
 obtain⟨g,f,h⟩:=Qd h
 refine AK.loop (body:=(fun st=>Qbq d b st)) (fun st σ=>σ=⟨[(0,.sl 11 (d.map Qb)),(1,.I b),(5,.I st)],[]⟩) (Sum.elim (fun q e σ=>e=.ret∧σ=⟨[(4,.I q)],[]⟩) (fun q e σ=>e=.exit 0∧σ=⟨[],[]⟩)) f rfl ?_ ?_
 ·rintro l o σ rfl h
  refine Qa hC [.n 5,.o (.ln d.length),.n 3] rfl ⟨tt_,Qj⟩ ?_
  rcases QB h with⟨c,h⟩|⟨c,h⟩
  ·obtain⟨j,i,h⟩:=Qd h
   refine Qa hC [.T,.n 8,.o (.row (Qb j)),.n 6] rfl ⟨⟨tt_,c⟩,(Qar i)⟩ ?_
   refine bg_ h (fun a h=>Qa hC [.T,.n 9,.K [4] []] rfl ⟨tt_,a⟩ ?_) fun a h=>Qa hC [.F,.n 8,.K [0,1,5] []] rfl ⟨tt_,a⟩ ?_
   ·cases h
    exact QfS rfl (an_ rfl rfl)
   cases h
   exact QaR rfl rfl
  refine Qa hC [.F,.n 2,.K [] []] rfl ⟨tt_,c⟩ ?_
  cases h
  exact QaM rfl (an_ rfl rfl)
 rcases g with(k | _)
 ·replace h:Qh2 k=some r:=h
  rintro e σ ⟨rfl,rfl⟩
  refine tg_ hC [.n 2] rfl ?_
  cases h
  exact d1_ rfl rfl tt_
 replace h:Qh3=some r:=h
 rintro e σ ⟨rfl,rfl⟩
 refine tg_ hC [.n 8] rfl ?_
 cases h
 exact d1_ rfl rfl tt_
def Qin  : Option Qo:=
 some (Qo.mk ([]:QBg))
theorem QlD  {r:Qo}(h:Qin  = some r):Qh prog 47 [] [] (Qp (.loc 2 0 0) [(2,.var (Qq r))]):=by
 refine Qh.walk 3 func47 rfl rfl rfl fun C hC=>?_
 refine Qa hC [.n 7,.v .no [some 2] (.agg (Qq (Qo.mk ([]:QBg)))),.n 5] rfl ⟨tt_,rfl⟩ ?_
 cases h
 exact d1_ rfl rfl ⟨rfl,tt_⟩
def Q4 (c:Qo)(b:Int)(a:Int):Option (Int⊕(Int⊕Unit)):=
 bif (decide (a<(c.L.length:Int)))then
 (idx c.L a).bind fun d=>
 bif (d.1==b)then
 some (.inr (.inl a))
 else
 some (.inl (w64 (a+1)))
 else
 some (.inr (.inr ()))
def Qde (a:Int):Option Int:=
 some a
def Qdf : Option Int:=
 some (-1)
def Qbf (b:Qo)(a:Int):Option Int:=
 (QK (fun st=>Q4 b a st) 0).bind (Sum.elim (fun q=>Qde q) (fun q=>Qdf))
theorem Qf0 (c b){r}(h:Qbf c b=some r):Qh prog 88 [.loc 607 0 0,.I b] [(607,.var (Qq c))] (Qp (.I r) [(607,.var (Qq c))]):=by
 refine Qh.walk 26 func88 rfl rfl rfl fun C hC=>?_
 refine tg_ hC [.n 12,.K [0,1,5] [607]] rfl ?_
 obtain⟨g,f,h⟩:=Qd h
 refine AK.loop (body:=(fun st=>Q4 c b st)) (fun st σ=>σ=⟨[(0,.loc 607 0 0),(1,.I b),(5,.I st)],[(607,.var (Qq c))]⟩) (Sum.elim (fun q e σ=>e=.ret∧σ=⟨[(4,.I q)],[(607,.var (Qq c))]⟩) (fun q e σ=>e=.exit 0∧σ=⟨[],[(607,.var (Qq c))]⟩)) f rfl ?_ ?_
 ·rintro l o σ rfl h
  refine Qa hC [.n 8,.o (.ln c.L.length),.n 3] rfl ⟨tt_,Qj⟩ ?_
  rcases QB h with⟨d,h⟩|⟨d,h⟩
  ·obtain⟨j,i,h⟩:=Qd h
   refine Qa hC [.T,.n 11,.o (.row (Qv j)),.n 6] rfl ⟨⟨tt_,d⟩,(Qar i)⟩ ?_
   refine bg_ h (fun a h=>Qa hC [.T,.n 9,.K [4] [607]] rfl ⟨tt_,a⟩ ?_) fun a h=>Qa hC [.F,.n 8,.K [0,1,5] [607]] rfl ⟨tt_,a⟩ ?_
   ·cases h
    exact QfS rfl (an_ rfl rfl)
   cases h
   exact QaR rfl rfl
  refine Qa hC [.F,.n 2,.K [] [607]] rfl ⟨tt_,d⟩ ?_
  cases h
  exact QaM rfl (an_ rfl rfl)
 rcases g with(k | _)
 ·replace h:Qde k=some r:=h
  rintro e σ ⟨rfl,rfl⟩
  refine tg_ hC [.n 2] rfl ?_
  cases h
  exact d1_ rfl rfl ⟨rfl,tt_⟩
 replace h:Qdf=some r:=h
 rintro e σ ⟨rfl,rfl⟩
 refine tg_ hC [.n 8] rfl ?_
 cases h
 exact d1_ rfl rfl ⟨rfl,tt_⟩
def QbV (a:Int)(b:Qo)(at_3:Int)(c:Int):Option Bool:=
 bif (decide (a<(b.L.length:Int)))then
 (idx b.L a).bind fun d=>
 bif (decide (d.2<at_3))then
 some true
 else
 (idx b.L a).bind fun e=>
 bif (e.2==at_3)then
 (idx b.L a).bind fun f=>
 some (decide (f.1<c))
 else
 some false
 else
 some false
def QaO (a:Int)(b:Bool):Option (Int⊕Int):=
 bif b then
 some (.inl (w64 (a+1)))
 else
 some (.inr a)
def Q7 (d:Qo)(at_3:Int)(b:Int)(a:Int):Option (Int⊕Int):=
 (QbV a d at_3 b).bind (fun c=>QaO a c)
def QbW (b:Qo)(c:Int)(at_3:Int)(a:Int):Option (Int×Qo):=
 (chk (decide (0≤a)&&decide (0≤a.toNat)&&decide (a.toNat≤b.L.length))).bind fun _=>
 (chk (decide (([]:List (Int×Int)).length+((b.L.drop 0).take (a.toNat-0)).length≤4294967296))).bind fun _=>
 (chk (decide ((([]:List (Int×Int))++((b.L.drop 0).take (a.toNat-0))).length+([(c,at_3)]:List (Int×Int)).length≤4294967296))).bind fun _=>
 (chk (decide (0≤a)&&decide (a.toNat≤b.L.length)&&decide (b.L.length≤b.L.length))).bind fun _=>
 (chk (decide (((([]:List (Int×Int))++((b.L.drop 0).take (a.toNat-0)))++[(c,at_3)]).length+((b.L.drop a.toNat).take (b.L.length-a.toNat)).length≤4294967296))).bind fun _=>
 some (0,(Qo.mk (((([]:List (Int×Int))++((b.L.drop 0).take (a.toNat-0)))++[(c,at_3)])++((b.L.drop a.toNat).take (b.L.length-a.toNat)))))
def Qbr (b:Qo)(a:Int)(at_3:Int):Option (Int×Qo):=
 (Qbf b a).bind fun c=>
 bif (decide (0≤c))then
 some (5,b)
 else
 bif (decide (4096≤(b.L.length:Int)))then
 some (2,b)
 else
 (QK (fun st=>Q7 b at_3 a st) 0).bind (fun q=>QbW b a at_3 q)
theorem Qgv (i g at_3){r}(h:Qbr i g at_3=some r):Qh prog 48 [.loc 607 0 0,.I g,.I at_3] [(607,.var (Qq i))] (Qp (.I r.1) [(607,.var (Qq r.2))]):=by
 refine Qh.walk 86 func48 rfl rfl rfl fun C hC=>?_
 obtain⟨Z,U,h⟩:=Qd h
 refine Qa hC [.n 10,.cm (.fn) [(607,607)] [(607,607)] [] [.d,.d] [(607,.var (Qq i))] (.I Z),.n 3] rfl ⟨tt_,(Qf0 _ _ U)⟩ ?_
 refine bg_ h (fun x h=>Qa hC [.T,.n 7,.K [6] [607]] rfl ⟨tt_,x⟩ ?_) fun x h=>Qa hC [.F,.n 9,.o (.ln i.L.length),.n 3] rfl ⟨⟨tt_,x⟩,Qj⟩ ?_
 ·cases h
  exact d1_ rfl rfl ⟨rfl,tt_⟩
 refine bg_ h (fun j h=>Qa hC [.T,.n 7,.K [6] [607]] rfl ⟨tt_,j⟩ ?_) fun j h=>Qa hC [.F,.n 9,.K [0,1,2,7] [607]] rfl ⟨tt_,j⟩ ?_
 ·cases h
  exact d1_ rfl rfl ⟨rfl,tt_⟩
 obtain⟨c,A,h⟩:=Qd h
 refine AK.loop (body:=(fun st=>Q7 i at_3 g st)) (fun st σ=>σ=⟨[(0,.loc 607 0 0),(1,.I g),(2,.I at_3),(7,.I st)],[(607,.var (Qq i))]⟩) (fun q e σ=>e=.exit 0∧σ=⟨[(0,.loc 607 0 0),(1,.I g),(2,.I at_3),(7,.I q)],[(607,.var (Qq i))]⟩) A rfl ?_ ?_
 ·rintro y o σ rfl h
  refine tg_ hC [.n 2] rfl ?_
  obtain⟨z,B,h⟩:=Qd h
  replace h:QaO y z=some o:=h
  refine AK.meetX (fun σ=>σ=⟨[(0,.loc 607 0 0),(1,.I g),(2,.I at_3),(7,.I y),(60,.b z)],[(607,.var (Qq i))]⟩) ?_ ?_
  ·replace h:=B
   refine Qa hC [.n 6,.o (.ln i.L.length),.n 2] rfl ⟨tt_,Qj⟩ ?_
   rcases QB h with⟨k,h⟩|⟨k,h⟩
   ·obtain⟨W,D,h⟩:=Qd h
    refine Qa hC [.S 25 (.b true),.n 5,.o (.row (Qv W)),.n 5] rfl ⟨(tc_ k),(Qar D)⟩ ?_
    rcases QB h with⟨p,h⟩|⟨p,h⟩
    ·refine Qa hC [.S 36 (.b true),.n 25,.K [0,1,2,7,60] [607]] rfl (tc_ p) ?_
     cases h
     exact AK.met rfl
    obtain⟨X,E,h⟩:=Qd h
    refine Qa hC [.S 36 (.b false),.n 5,.o (.row (Qv X)),.n 5] rfl ⟨(tc_ p),(Qar E)⟩ ?_
    rcases QB h with⟨t,h⟩|⟨t,h⟩
    ·obtain⟨Y,G,h⟩:=Qd h
     refine Qa hC [.S 47 (.b true),.n 5,.o (.row (Qv Y)),.n 8,.K [0,1,2,7,60] [607]] rfl ⟨(tc_ t),(Qar G)⟩ ?_
     cases h
     exact AK.met rfl
    refine Qa hC [.S 47 (.b false),.n 14,.K [0,1,2,7,60] [607]] rfl (tc_ t) ?_
    cases h
    exact AK.met rfl
   refine Qa hC [.S 25 (.b false),.n 36,.K [0,1,2,7,60] [607]] rfl (tc_ k) ?_
   cases h
   exact AK.met rfl
  rintro σ rfl
  replace h:QaO y z=some o:=h
  refine tg_ hC [.n 1] rfl ?_
  refine bg_ h (fun u h=>Qa hC [.T,.n 9,.K [0,1,2,7] [607]] rfl ⟨tt_,u⟩ ?_) fun u h=>Qa hC [.F,.n 2,.K [0,1,2,7] [607]] rfl ⟨tt_,u⟩ ?_
  ·cases h
   exact QaR rfl rfl
  cases h
  exact QaM rfl (an_ rfl rfl)
 replace h:QbW i g at_3 c=some r:=h
 rintro e σ ⟨rfl,rfl⟩
 obtain⟨v,h⟩:=QaV h
 obtain⟨H,h⟩:=QaV h
 obtain⟨J,h⟩:=QaV h
 obtain⟨w,h⟩:=QaV h
 obtain⟨M,h⟩:=QaV h
 refine tg_ hC [.n 3,.K [0,1,2,7] [607]] rfl ?_
 refine AK.draw2 Qk hC mixed [.a .no none true,.N,.N,.N,.N,.N,.N,.a (.any (.sl 2 (((i.L.drop 0).take (c.toNat-0)).map Qv)) none) none false,.m (.app ((([]:List (Int×Int))++((i.L.drop 0).take (c.toNat-0))).map Qv) (([]:List (Int×Int))++((i.L.drop 0).take (c.toNat-0))).length),.a .no none true,.a .no none true,.a .no (some ([],.agg (Qv (g,at_3)))) true,.a (.bd []) (some ([],.sl 2 (([(g,at_3)]:List (Int×Int)).map Qv))) true,.m (.app (((([]:List (Int×Int))++((i.L.drop 0).take (c.toNat-0)))++[(g,at_3)]).map Qv) ((([]:List (Int×Int))++((i.L.drop 0).take (c.toNat-0)))++[(g,at_3)]).length),.a .no none true,.a .no none true,.a .no none true,.a .no none true,.a .no none true,.a (.any (.sl 2 (((i.L.drop c.toNat).take (i.L.length-c.toNat)).map Qv)) none) none true,.m (.app ((((([]:List (Int×Int))++((i.L.drop 0).take (c.toNat-0)))++[(g,at_3)])++((i.L.drop c.toNat).take (i.L.length-c.toNat))).map Qv) (((([]:List (Int×Int))++((i.L.drop 0).take (c.toNat-0)))++[(g,at_3)])++((i.L.drop c.toNat).take (i.L.length-c.toNat))).length),.N,.N,.m .s] [0,1,2,7] [607] [] [64,607] rfl rfl rfl ⟨⟨⟨⟨⟨⟨⟨tt_,(fun σ P h2 _=>Stp.sliceD rfl rfl (Qt hC.n rfl) (P _ _ rfl) (Qk.es rfl) Bnd.no (Bnd.val (P _ _ rfl) (Qal (Qgl v)) rfl) (Qal (Qgm v)) (QaQ (Qal (Qmk v)) (QgP Qj.symm)) QhP)⟩,⟨(Qj (f:=Qv) (l:=([]:List (Int×Int)))),QbA H Qj,(QaZ (f:=Qv) (l:=([]:List (Int×Int))) (m:=((i.L.drop 0).take (c.toNat-0)))),Qcb (l:=([]:List (Int×Int))) Qj⟩⟩,rfl⟩,rfl⟩,⟨Qj,QbA J Qj,QaZ,Qcb Qj⟩⟩,(fun σ P h2 _=>Stp.sliceD rfl rfl (Qt hC.n rfl) (P _ _ rfl) (Qk.es rfl) (Bnd.val (P _ _ rfl) (Qal (Qgl w)) rfl) (Bnd.none_ Qj) (Qal (Qgm w)) (QgP Qj.symm) QhP)⟩,⟨Qj,QbA M Qj,QaZ,Qcb Qj⟩⟩ rfl (by kernel_rfl) rfl rfl rfl ?_
 refine Qa hC [.O 607 (.var [.own 64 (((([]:List (Int×Int))++((i.L.drop 0).take (c.toNat-0)))++[(g,at_3)])++((i.L.drop c.toNat).take (i.L.length-c.toNat))).length]),.n 7,.frz 64 ((((([]:List (Int×Int))++((i.L.drop 0).take (c.toNat-0)))++[(g,at_3)])++((i.L.drop c.toNat).take (i.L.length-c.toNat))).map Qv) [] [607]] rfl ⟨⟨tt_,rfl⟩,⟨tt_,⟨(QbT Qj),tt_⟩⟩⟩ ?_
 cases h
 exact d1_ rfl rfl ⟨rfl,tt_⟩
def Qa4 (c:QBg)(a:Int):Option Bool:=
 bif (decide (0<(c.length:Int)))then
 (idx c 0).bind fun b=>
 some (decide (b.2≤a))
 else
 some false
def Qag (a:QBg)(c:(List Int))(d:Bool):Option ((QBg×(List Int))⊕((List Int)×Qo)):=
 bif d then
 (idx a 0).bind fun b=>
 (chk (decide (c.length+([b.1]:List Int).length≤4294967296))).bind fun _=>
 (chk (decide (0≤1)&&decide (1≤a.length)&&decide (a.length≤a.length))).bind fun _=>
 (chk (decide (([]:List (Int×Int)).length+((a.drop 1).take (a.length-1)).length≤4294967296))).bind fun _=>
 some (.inl ((([]:List (Int×Int))++((a.drop 1).take (a.length-1))),(c++([b.1]:List Int))))
 else
 some (.inr (c,(Qo.mk a)))
def QP (a:Int)(c:QBg)(d:(List Int)):Option ((QBg×(List Int))⊕((List Int)×Qo)):=
 (Qa4 c a).bind (fun b=>Qag c d b)
def QbX (b:(List Int))(a:Qo):Option ((List Int)×Qo):=
 some (b,a)
def Qcx (b:Qo)(a:Int):Option ((List Int)×Qo):=
 (QK (fun st=>QP a st.1 st.2) (b.L,([]:List Int))).bind (fun q=>QbX q.1 q.2)
theorem Qgw (z a){r}(h:Qcx z a=some r):Qh prog 49 [.loc 607 0 0,.I a] [(607,.var (Qq z))] (Qp (.own 600 r.1.length) [(600,.arr 1 (r.1.map Qr)),(607,.var (Qq r.2))]):=by
 refine Qh.walk 44 func49 rfl rfl rfl fun C hC=>?_
 refine Qa hC [.n 12,.adopt 5 23 1,.O 23 (.arr 1 (([]:List Int).map Qr)),.S 5 (.own 23 ([]:List Int).length),.K [0,1,5] [23,607]] rfl ⟨⟨tt_,rfl⟩,(congrArg (fun n=>V.own 23 n) (by simp))⟩ ?_
 obtain⟨w,l,h⟩:=Qd h
 refine AK.loop (body:=(fun st=>QP a st.1 st.2)) (fun st σ=>σ=⟨[(0,.loc 607 0 0),(1,.I a),(5,.own 23 st.2.length)],[(23,.arr 1 (st.2.map Qr)),(607,.var (Qq (Qo.mk st.1)))]⟩) (fun q e σ=>e=.exit 0∧σ=⟨[(5,.own 23 q.1.length)],[(23,.arr 1 (q.1.map Qr)),(607,.var (Qq q.2))]⟩) l rfl ?_ ?_
 ·rintro ⟨c,k⟩ o σ rfl h
  refine tg_ hC [.n 2] rfl ?_
  obtain⟨j,m,h⟩:=Qd h
  replace h:Qag c k j=some o:=h
  refine AK.meetX (fun σ=>σ=⟨[(0,.loc 607 0 0),(1,.I a),(5,.own 23 k.length),(22,.b j)],[(23,.arr 1 (k.map Qr)),(607,.var (Qq (Qo.mk c)))]⟩) ?_ ?_
  ·replace h:=m
   refine Qa hC [.n 5,.o (.ln c.length),.n 2] rfl ⟨tt_,Qj⟩ ?_
   rcases QB h with⟨d,h⟩|⟨d,h⟩
   ·obtain⟨x,p,h⟩:=Qd h
    refine Qa hC [.S 12 (.b true),.n 4,.o (.row (Qv x)),.n 6,.K [0,1,5,22] [23,607]] rfl ⟨(tc_ d),(Qar p)⟩ ?_
    cases h
    exact AK.met rfl
   refine Qa hC [.S 12 (.b false),.n 11,.K [0,1,5,22] [23,607]] rfl (tc_ d) ?_
   cases h
   exact AK.met rfl
  rintro σ rfl
  replace h:Qag c k j=some o:=h
  refine tg_ hC [.n 1] rfl ?_
  rcases QB h with⟨f,h⟩|⟨f,h⟩
  ·obtain⟨g,s,h⟩:=Qd h
   obtain⟨t,h⟩:=QaV h
   obtain⟨i,h⟩:=QaV h
   obtain⟨u,h⟩:=QaV h
   refine Qa hC [.T,.n 10,.o (.row (Qv g)),.n 2,.v (.bd []) [] (.sl 1 (([g.1]:List Int).map Qr)),.app ((k++([g.1]:List Int)).map Qr) (k++([g.1]:List Int)).length,.n 6,.O 34 (.arr 2 (([]:List (Int×Int)).map Qv)),.S 34 (.own 34 ([]:List (Int×Int)).length),.n 4,.o (.any (.sl 2 (((c.drop 1).take (c.length-1)).map Qv)) none),.app ((([]:List (Int×Int))++((c.drop 1).take (c.length-1))).map Qv) (([]:List (Int×Int))++((c.drop 1).take (c.length-1))).length,.n 3,.O 607 (.var [.own 34 (([]:List (Int×Int))++((c.drop 1).take (c.length-1))).length]),.n 2,.frz 34 ((([]:List (Int×Int))++((c.drop 1).take (c.length-1))).map Qv) [] [607],.K [0,1,5] [23,607]] rfl ⟨⟨⟨⟨⟨⟨⟨⟨⟨⟨tt_,f⟩,(Qar s)⟩,rfl⟩,⟨Qj,QbA t Qj,QaZ,Qcb Qj⟩⟩,rfl⟩,rfl⟩,(fun σ A D _=>Stp.sliceD rfl rfl (Qt hC.n rfl) (A _ _ rfl) (Qk.es rfl) (Bnd.val (A _ _ rfl) (Qal (Qgl i)) rfl) (Bnd.none_ Qj) (Qal (Qgm i)) (QgP Qj.symm) QhP)⟩,⟨Qj,QbA u Qj,QaZ,Qcb Qj⟩⟩,rfl⟩,⟨tt_,⟨(QbT Qj),tt_⟩⟩⟩ ?_
   cases h
   exact QaR rfl rfl
  refine Qa hC [.F,.n 2,.K [5] [23,607]] rfl ⟨tt_,f⟩ ?_
  cases h
  exact QaM rfl (an_ rfl rfl)
 obtain⟨B,y⟩:=w
 replace h:QbX B y=some r:=h
 rintro e σ ⟨rfl,rfl⟩
 refine tg_ hC [.n 9,.K [4] [23,607],.ren 23 600] rfl ?_
 cases h
 exact d1_ rfl rfl ⟨rfl,rfl,tt_⟩
def Qel (b:Int)(a:Qo):Option ((Int×Qo)⊕Qo):=
 some (.inl ((w64 (b+1)),a))
def Qf1 (a:(List Qe))(b:Int):Option Bool:=
 (idx a b).bind fun c=>
 (Qea a c.Id).bind fun d=>
 bif (d==b)then
 (idx a b).bind fun e=>
 some (decide (0<e.Until))
 else
 some false
def Qem (f:(List Qe))(a:Int)(g:Qo)(b:Bool):Option ((Int×Qo)⊕Qo):=
 bif b then
 (idx f a).bind fun c=>
 (idx f a).bind fun d=>
 (Qbr g c.Id d.Until).bind fun e=>
 Qel a e.2
 else
 Qel a g
def QbJ (a:(List Qe))(b:Int)(d:Qo):Option ((Int×Qo)⊕Qo):=
 bif (decide (b<(a.length:Int)))then
 (Qf1 a b).bind (fun c=>Qem a b d c)
 else
 some (.inr d)
def Qf2 (a:Int)(b:Qo):Option (List Int):=
 (Qcx b a).bind fun c=>
 some c.1
def Qgg (b:(List Qe))(a:Int):Option (List Int):=
 (Qin).bind fun c=>
 (QK (fun st=>QbJ b st.1 st.2) (0,c)).bind (fun q=>Qf2 a q)
theorem QiG (k f){r}(h:Qgg k f=some r):Qh prog 20 [.sl 11 (k.map Qb),.I f] [] (Qp (.own 600 r.length) [(600,.arr 1 (r.map Qr))]):=by
 refine Qh.walk 46 func20 rfl rfl rfl fun C hC=>?_
 obtain⟨X,G,h⟩:=Qd h
 refine Qa hC [.n 7,.cm (.fn) [] [(7,2)] [] [] [(2,.var (Qq X))] (.loc 2 0 0),.n 10,.K [0,1,5,6] [7]] rfl ⟨tt_,(QlD  G)⟩ ?_
 obtain⟨H,u,h⟩:=Qd h
 refine AK.loop (body:=(fun st=>QbJ k st.1 st.2)) (fun st σ=>σ=⟨[(0,.sl 11 (k.map Qb)),(1,.I f),(5,.loc 7 0 0),(6,.I st.1)],[(7,.var (Qq st.2))]⟩) (fun q e σ=>e=.exit 0∧σ=⟨[(1,.I f),(5,.loc 7 0 0)],[(7,.var (Qq q))]⟩) u rfl ?_ ?_
 ·rintro ⟨v,J⟩ o σ rfl h
  refine Qa hC [.n 5,.o (.ln k.length),.n 3] rfl ⟨tt_,Qj⟩ ?_
  refine bg_ h (fun g h=>Qa hC [.T,.n 2] rfl ⟨tt_,g⟩ ?_) fun g h=>Qa hC [.F,.n 2,.K [1,5] [7]] rfl ⟨tt_,g⟩ ?_
  ·refine AK.meet (fun σ=>∃l:Qo,σ=⟨[(0,.sl 11 (k.map Qb)),(1,.I f),(5,.loc 7 0 0),(6,.I v)],[(7,.var (Qq l))]⟩∧Qel v l=some o) ?_ ?_
   ·refine tg_ hC [.n 2] rfl ?_
    obtain⟨p,w,h⟩:=Qd h
    replace h:Qem k v J p=some o:=h
    refine AK.meetX (fun σ=>σ=⟨[(0,.sl 11 (k.map Qb)),(1,.I f),(5,.loc 7 0 0),(6,.I v),(30,.b p)],[(7,.var (Qq J))]⟩) ?_ ?_
    ·replace h:=w
     obtain⟨L,x,h⟩:=Qd h
     obtain⟨M,y,h⟩:=Qd h
     refine Qa hC [.n 4,.o (.row (Qb L)),.n 2,.o (.c false [.d,.d] (.I M)),.n 3] rfl ⟨⟨tt_,(Qar x)⟩,(QdY _ _ y)⟩ ?_
     rcases QB h with⟨i,h⟩|⟨i,h⟩
     ·obtain⟨P,z,h⟩:=Qd h
      refine Qa hC [.S 23 (.b true),.n 2,.o (.row (Qb P)),.n 5,.K [0,1,5,6,30] [7]] rfl ⟨(tc_ i),(Qar z)⟩ ?_
      cases h
      exact AK.met rfl
     refine Qa hC [.S 23 (.b false),.n 8,.K [0,1,5,6,30] [7]] rfl (tc_ i) ?_
     cases h
     exact AK.met rfl
    rintro σ rfl
    replace h:Qem k v J p=some o:=h
    refine tg_ hC [.n 1] rfl ?_
    rcases QB h with⟨j,h⟩|⟨j,h⟩
    ·obtain⟨U,A,h⟩:=Qd h
     obtain⟨W,B,h⟩:=Qd h
     obtain⟨s,D,h⟩:=Qd h
     refine Qa hC [.T,.K [0,1,5,6] [7]] rfl ⟨tt_,j⟩ ?_
     refine AK.draw2 Qk hC mixed [.N,.N,.N,.a (.row (Qb U)) none false,.N,.N,.N,.N,.a (.row (Qb W)) none false,.N,.N,.m (.cm (.fn) [(607,7)] [(7,607)] [] [.d,.d,.d] [(607,.var (Qq s.2))] (.I s.1) [])] [] [] [0,1,5,6] [7] rfl rfl rfl ⟨⟨⟨tt_,(Qar A)⟩,(Qar B)⟩,⟨tt_,(Qgv _ _ _ D)⟩⟩ rfl (by kernel_rfl) rfl rfl rfl ?_
     refine Qa hC [.O 7 (.var (Qq s.2)),.n 1,.K [0,1,5,6] [7]] rfl ⟨tt_,rfl⟩ ?_
     exact AK.met (ex_ _ (an_ rfl h))
    refine Qa hC [.F,.n 2,.K [0,1,5,6] [7]] rfl ⟨tt_,j⟩ ?_
    exact AK.met (ex_ _ (an_ rfl h))
   rintro σ ⟨l,rfl,h⟩
   refine tg_ hC [.n 5,.K [0,1,5,6] [7]] rfl ?_
   cases h
   exact QaR rfl rfl
  cases h
  exact QaM rfl (an_ rfl rfl)
 replace h:Qf2 f H=some r:=h
 rintro e σ ⟨rfl,rfl⟩
 obtain⟨t,E,h⟩:=Qd h
 refine Qa hC [.n 6,.cm (.fn) [(607,7)] [(45,600),(7,607)] [] [.d,.d] [(600,.arr 1 (t.1.map Qr)),(607,.var (Qq t.2))] (.own 600 t.1.length),.n 4,.K [4] [45],.ren 45 600] rfl ⟨tt_,(Qgw _ _ E)⟩ ?_
 cases h
 exact d1_ rfl rfl ⟨rfl,tt_⟩
def Qb3 (a:QV):Option Bool:=
 bif ((decide (a.Most<1))||((decide (16<a.Most))||((decide (a.Enough<1))||((decide (a.Most<a.Enough))||((decide (a.Open<0))||((decide (a.Done<0))||((decide (a.Failed<0))||((decide (16<a.Open))||((decide (16<a.Done))||(decide (16<a.Failed)))))))))))then
 some false
 else
 some ((decide (1≤(w64 ((w64 (a.Open+a.Done))+a.Failed))))&&(decide ((w64 ((w64 (a.Open+a.Done))+a.Failed))≤a.Most)))
theorem Qhw (a){r}(h:Qb3 a=some r):Qh prog 52 [.agg (QT a)] [] (Qp (.b r) []):=by
 refine Qh.walk 70 func52 rfl rfl rfl fun C hC=>?_
 unfold Qb3 at h
 refine tg_ hC [.n 8] rfl ?_
 refine AK.meetX (fun σ=>σ=⟨[(1,.loc 1 0 0),(53,.b ((decide (a.Most<1))||((decide (16<a.Most))||((decide (a.Enough<1))||((decide (a.Most<a.Enough))||((decide (a.Open<0))||((decide (a.Done<0))||((decide (a.Failed<0))||((decide (16<a.Open))||((decide (16<a.Done))||(decide (16<a.Failed))))))))))))],[(1,.var (QT a))]⟩) ?_ ?_
 ·refine tg_ hC [.n 5] rfl ?_
  rcases Qa6 (decide (a.Most<1))with c | c
  ·refine Qa hC [.S 7 (.b true),.n 47,.S 53 (.b ((decide (a.Most<1))||((decide (16<a.Most))||((decide (a.Enough<1))||((decide (a.Most<a.Enough))||((decide (a.Open<0))||((decide (a.Done<0))||((decide (a.Failed<0))||((decide (16<a.Open))||((decide (16<a.Done))||(decide (16<a.Failed)))))))))))),.K [1,53] [1]] rfl ⟨(tc_ c),(congrArg V.b (orT c rfl))⟩ ?_
   exact AK.met rfl
  refine Qa hC [.S 7 (.b false),.n 5] rfl (tc_ c) ?_
  rcases Qa6 (decide (16<a.Most))with e | e
  ·refine Qa hC [.S 12 (.b true),.n 42,.S 53 (.b ((decide (a.Most<1))||((decide (16<a.Most))||((decide (a.Enough<1))||((decide (a.Most<a.Enough))||((decide (a.Open<0))||((decide (a.Done<0))||((decide (a.Failed<0))||((decide (16<a.Open))||((decide (16<a.Done))||(decide (16<a.Failed)))))))))))),.K [1,53] [1]] rfl ⟨(tc_ e),(congrArg V.b (orF c (orT e rfl)))⟩ ?_
   exact AK.met rfl
  refine Qa hC [.S 12 (.b false),.n 5] rfl (tc_ e) ?_
  rcases Qa6 (decide (a.Enough<1))with f | f
  ·refine Qa hC [.S 17 (.b true),.n 37,.S 53 (.b ((decide (a.Most<1))||((decide (16<a.Most))||((decide (a.Enough<1))||((decide (a.Most<a.Enough))||((decide (a.Open<0))||((decide (a.Done<0))||((decide (a.Failed<0))||((decide (16<a.Open))||((decide (16<a.Done))||(decide (16<a.Failed)))))))))))),.K [1,53] [1]] rfl ⟨(tc_ f),(congrArg V.b (orF c (orF e (orT f rfl))))⟩ ?_
   exact AK.met rfl
  refine Qa hC [.S 17 (.b false),.n 7] rfl (tc_ f) ?_
  rcases Qa6 (decide (a.Most<a.Enough))with i | i
  ·refine Qa hC [.S 24 (.b true),.n 30,.S 53 (.b ((decide (a.Most<1))||((decide (16<a.Most))||((decide (a.Enough<1))||((decide (a.Most<a.Enough))||((decide (a.Open<0))||((decide (a.Done<0))||((decide (a.Failed<0))||((decide (16<a.Open))||((decide (16<a.Done))||(decide (16<a.Failed)))))))))))),.K [1,53] [1]] rfl ⟨(tc_ i),(congrArg V.b (orF c (orF e (orF f (orT i rfl)))))⟩ ?_
   exact AK.met rfl
  refine Qa hC [.S 24 (.b false),.n 5] rfl (tc_ i) ?_
  rcases Qa6 (decide (a.Open<0))with k | k
  ·refine Qa hC [.S 29 (.b true),.n 25,.S 53 (.b ((decide (a.Most<1))||((decide (16<a.Most))||((decide (a.Enough<1))||((decide (a.Most<a.Enough))||((decide (a.Open<0))||((decide (a.Done<0))||((decide (a.Failed<0))||((decide (16<a.Open))||((decide (16<a.Done))||(decide (16<a.Failed)))))))))))),.K [1,53] [1]] rfl ⟨(tc_ k),(congrArg V.b (orF c (orF e (orF f (orF i (orT k rfl))))))⟩ ?_
   exact AK.met rfl
  refine Qa hC [.S 29 (.b false),.n 5] rfl (tc_ k) ?_
  rcases Qa6 (decide (a.Done<0))with d | d
  ·refine Qa hC [.S 34 (.b true),.n 20,.S 53 (.b ((decide (a.Most<1))||((decide (16<a.Most))||((decide (a.Enough<1))||((decide (a.Most<a.Enough))||((decide (a.Open<0))||((decide (a.Done<0))||((decide (a.Failed<0))||((decide (16<a.Open))||((decide (16<a.Done))||(decide (16<a.Failed)))))))))))),.K [1,53] [1]] rfl ⟨(tc_ d),(congrArg V.b (orF c (orF e (orF f (orF i (orF k (orT d rfl)))))))⟩ ?_
   exact AK.met rfl
  refine Qa hC [.S 34 (.b false),.n 5] rfl (tc_ d) ?_
  rcases Qa6 (decide (a.Failed<0))with g | g
  ·refine Qa hC [.S 39 (.b true),.n 15,.S 53 (.b ((decide (a.Most<1))||((decide (16<a.Most))||((decide (a.Enough<1))||((decide (a.Most<a.Enough))||((decide (a.Open<0))||((decide (a.Done<0))||((decide (a.Failed<0))||((decide (16<a.Open))||((decide (16<a.Done))||(decide (16<a.Failed)))))))))))),.K [1,53] [1]] rfl ⟨(tc_ g),(congrArg V.b (orF c (orF e (orF f (orF i (orF k (orF d (orT g rfl))))))))⟩ ?_
   exact AK.met rfl
  refine Qa hC [.S 39 (.b false),.n 5] rfl (tc_ g) ?_
  rcases Qa6 (decide (16<a.Open))with j | j
  ·refine Qa hC [.S 44 (.b true),.n 10,.S 53 (.b ((decide (a.Most<1))||((decide (16<a.Most))||((decide (a.Enough<1))||((decide (a.Most<a.Enough))||((decide (a.Open<0))||((decide (a.Done<0))||((decide (a.Failed<0))||((decide (16<a.Open))||((decide (16<a.Done))||(decide (16<a.Failed)))))))))))),.K [1,53] [1]] rfl ⟨(tc_ j),(congrArg V.b (orF c (orF e (orF f (orF i (orF k (orF d (orF g (orT j rfl)))))))))⟩ ?_
   exact AK.met rfl
  refine Qa hC [.S 44 (.b false),.n 5] rfl (tc_ j) ?_
  rcases Qa6 (decide (16<a.Done))with l | l
  ·refine Qa hC [.S 49 (.b true),.n 5,.S 53 (.b ((decide (a.Most<1))||((decide (16<a.Most))||((decide (a.Enough<1))||((decide (a.Most<a.Enough))||((decide (a.Open<0))||((decide (a.Done<0))||((decide (a.Failed<0))||((decide (16<a.Open))||((decide (16<a.Done))||(decide (16<a.Failed)))))))))))),.K [1,53] [1]] rfl ⟨(tc_ l),(congrArg V.b (orF c (orF e (orF f (orF i (orF k (orF d (orF g (orF j (orT l rfl))))))))))⟩ ?_
   exact AK.met rfl
  refine Qa hC [.S 49 (.b false),.n 5,.S 53 (.b ((decide (a.Most<1))||((decide (16<a.Most))||((decide (a.Enough<1))||((decide (a.Most<a.Enough))||((decide (a.Open<0))||((decide (a.Done<0))||((decide (a.Failed<0))||((decide (16<a.Open))||((decide (16<a.Done))||(decide (16<a.Failed)))))))))))),.K [1,53] [1]] rfl ⟨(tc_ l),(congrArg V.b (orF c (orF e (orF f (orF i (orF k (orF d (orF g (orF j (orF l rfl))))))))))⟩ ?_
  exact AK.met rfl
 rintro σ rfl
 refine tg_ hC [.n 1] rfl ?_
 refine bg_ h (fun o h=>Qa hC [.T,.n 7,.K [2] []] rfl ⟨tt_,o⟩ ?_) fun o h=>Qa hC [.F,.n 16] rfl ⟨tt_,o⟩ ?_
 ·cases h
  exact d1_ rfl rfl tt_
 refine AK.meetX (fun σ=>σ=⟨[(2,.b ((decide (1≤(w64 ((w64 (a.Open+a.Done))+a.Failed))))&&(decide ((w64 ((w64 (a.Open+a.Done))+a.Failed))≤a.Most))))],[]⟩) ?_ ?_
 ·refine tg_ hC [.n 4] rfl ?_
  rcases Qa6 (decide (1≤(w64 ((w64 (a.Open+a.Done))+a.Failed))))with m | m
  ·refine Qa hC [.S 64 (.b true),.n 7,.S 2 (.b ((decide (1≤(w64 ((w64 (a.Open+a.Done))+a.Failed))))&&(decide ((w64 ((w64 (a.Open+a.Done))+a.Failed))≤a.Most)))),.K [2] []] rfl ⟨(tc_ m),(congrArg V.b (QjD m rfl))⟩ ?_
   exact AK.met rfl
  refine Qa hC [.S 64 (.b false),.n 7,.S 2 (.b ((decide (1≤(w64 ((w64 (a.Open+a.Done))+a.Failed))))&&(decide ((w64 ((w64 (a.Open+a.Done))+a.Failed))≤a.Most)))),.K [2] []] rfl ⟨(tc_ m),(congrArg V.b (QjE m rfl))⟩ ?_
  exact AK.met rfl
 rintro σ rfl
 refine tg_ hC [.n 2] rfl ?_
 cases h
 exact d1_ rfl rfl tt_
def Qh4 (a:QV):Option Bool:=
 (Qb3 a).bind fun b=>
 bif b then
 bif (decide (a.Enough≤a.Done))then
 some true
 else
 some (a.Open==0)
 else
 some false
def QfG (a:Bool):Option Bool:=
 some a
def QfH (a:QV):Option Bool:=
 (Qh4 a).bind (fun b=>QfG b)
theorem Qla (f){r}(h:QfH f=some r):Qh prog 53 [.agg (QT f)] [] (Qp (.b r) []):=by
 refine Qh.walk 17 func53 rfl rfl rfl fun C hC=>?_
 refine tg_ hC [.n 7] rfl ?_
 obtain⟨g,i,h⟩:=Qd h
 replace h:QfG g=some r:=h
 refine AK.meetX (fun σ=>σ=⟨[(2,.b g)],[]⟩) ?_ ?_
 ·replace h:=i
  obtain⟨k,j,h⟩:=Qd h
  refine Qa hC [.n 1,.v .no [] (.agg (QT f)),.o (.c false [.d] (.b k)),.n 1] rfl ⟨⟨tt_,rfl⟩,(Qhw _ j)⟩ ?_
  refine bg_ h (fun a h=>Qa hC [.S 5 (.b true),.n 6] rfl (tc_ a) ?_) fun a h=>Qa hC [.S 5 (.b false),.n 13,.K [2] []] rfl (tc_ a) ?_
  ·refine bg_ h (fun e h=>Qa hC [.S 11 (.b true),.n 7,.K [2] []] rfl (tc_ e) ?_) fun e h=>Qa hC [.S 11 (.b false),.n 7,.K [2] []] rfl (tc_ e) ?_
   ·cases h
    exact AK.met rfl
   cases h
   exact AK.met rfl
  cases h
  exact AK.met rfl
 rintro σ rfl
 replace h:QfG g=some r:=h
 refine tg_ hC [.n 2] rfl ?_
 cases h
 exact d1_ rfl rfl tt_
def Qe2 (b:Bool)(c:Bool)(a:Qe)(next_2:Int)(e:Int)(f:(List Qe)):Option Bool:=
 bif (!b)then
 some true
 else
 bif c then
 some true
 else
 bif (decide (a.Until<0))then
 some true
 else
 bif (decide (a.Id<1))then
 some true
 else
 bif (decide (next_2≤a.Id))then
 some true
 else
 bif (decide (0<e))then
 (idx f (w64 (e-1))).bind fun d=>
 some (decide (a.Id≤d.Id))
 else
 some false
def Qdv (b:Int)(a:Bool):Option (Int⊕(Unit⊕Unit)):=
 bif a then
 some (.inr (.inl ()))
 else
 some (.inl (w64 (b+1)))
def Qba (b:(List Qe))(next_2:Int)(a:Int):Option (Int⊕(Unit⊕Unit)):=
 bif (decide (a<(b.length:Int)))then
 (idx b a).bind fun c=>
 (Qb3 c.Batch).bind fun d=>
 (QfH c.Batch).bind fun e=>
 (Qe2 d e c next_2 a b).bind (fun f=>Qdv a f)
 else
 some (.inr (.inr ()))
def Qhx : Option Bool:=
 some false
def Qhy : Option Bool:=
 some true
def QeR (a:(List Qe))(next_2:Int):Option Bool:=
 bif (decide (64<(a.length:Int)))then
 some false
 else
 (QK (fun st=>Qba a next_2 st) 0).bind (Sum.elim (fun q=>Qhx) (fun q=>Qhy))
theorem QkB (p next_2){r}(h:QeR p next_2=some r):Qh prog 22 [.sl 11 (p.map Qb),.I next_2] [] (Qp (.b r) []):=by
 refine Qh.walk 64 func22 rfl rfl rfl fun C hC=>?_
 refine Qa hC [.n 9,.o (.ln p.length),.n 3] rfl ⟨tt_,Qj⟩ ?_
 refine bg_ h (fun s h=>Qa hC [.T,.n 7,.K [4] []] rfl ⟨tt_,s⟩ ?_) fun s h=>Qa hC [.F,.n 9,.K [0,1,5] []] rfl ⟨tt_,s⟩ ?_
 ·cases h
  exact d1_ rfl rfl tt_
 obtain⟨D,w,h⟩:=Qd h
 refine AK.loop (body:=(fun st=>Qba p next_2 st)) (fun st σ=>σ=⟨[(0,.sl 11 (p.map Qb)),(1,.I next_2),(5,.I st)],[]⟩) (Sum.elim (fun q e σ=>e=.ret∧σ=⟨[(4,.b false)],[]⟩) (fun q e σ=>e=.exit 0∧σ=⟨[],[]⟩)) w rfl ?_ ?_
 ·rintro E o σ rfl h
  refine Qa hC [.n 5,.o (.ln p.length),.n 3] rfl ⟨tt_,Qj⟩ ?_
  rcases QB h with⟨t,h⟩|⟨t,h⟩
  ·obtain⟨x,G,h⟩:=Qd h
   obtain⟨H,y,h⟩:=Qd h
   obtain⟨J,z,h⟩:=Qd h
   refine Qa hC [.T,.n 8,.o (.row (Qb x)),.v .no [] (.agg (Qb x)),.n 2,.O 6 (.var (Qb x)),.n 5,.v .no [] (.agg (QT x.Batch)),.o (.c false [.d] (.b H)),.n 6,.v .no [] (.agg (QT x.Batch)),.o (.c false [.d] (.b J)),.n 4] rfl ⟨⟨⟨⟨⟨⟨⟨⟨tt_,t⟩,(Qar G)⟩,rfl⟩,rfl⟩,rfl⟩,(Qhw _ y)⟩,rfl⟩,(Qla _ z)⟩ ?_
   obtain⟨u,A,h⟩:=Qd h
   replace h:Qdv E u=some o:=h
   refine AK.meetX (fun σ=>σ=⟨[(0,.sl 11 (p.map Qb)),(1,.I next_2),(5,.I E),(63,.b u)],[]⟩) ?_ ?_
   ·replace h:=A
    refine tg_ hC [.K [0,1,5,6,7,8] [6]] rfl ?_
    rcases QB h with⟨f,h⟩|⟨f,h⟩
    ·refine AK.draw2 Qk hC mixed [.N,.N,.a .no (some ([],.b true)) false,.N,.N,.N,.N,.N,.N,.N,.N,.N,.N,.N,.N,.N,.N,.N,.N,.N,.N,.N,.N,.N,.N,.N,.N,.N,.N,.N,.N,.N,.N,.N,.N,.N] [] [] [0,1,5,63] [] rfl rfl rfl (tc_ f) rfl (by kernel_rfl) rfl rfl rfl ?_
     refine tg_ hC [.K [0,1,5,63] []] rfl ?_
     cases h
     exact AK.met rfl
    rcases QB h with⟨g,h⟩|⟨g,h⟩
    ·refine AK.draw2 Qk hC mixed [.N,.N,.a .no (some ([],.b false)) false,.N,.N,.a .no (some ([],.b true)) false,.N,.N,.N,.N,.N,.N,.N,.N,.N,.N,.N,.N,.N,.N,.N,.N,.N,.N,.N,.N,.N,.N,.N,.N,.N,.N,.N,.N,.N,.N] [] [] [0,1,5,63] [] rfl rfl rfl ⟨(tc_ f),(cb_ g)⟩ rfl (by kernel_rfl) rfl rfl rfl ?_
     refine tg_ hC [.K [0,1,5,63] []] rfl ?_
     cases h
     exact AK.met rfl
    rcases QB h with⟨i,h⟩|⟨i,h⟩
    ·refine AK.draw2 Qk hC mixed [.N,.N,.a .no (some ([],.b false)) false,.N,.N,.a .no (some ([],.b false)) false,.N,.N,.N,.N,.a .no (some ([],.b true)) false,.N,.N,.N,.N,.N,.N,.N,.N,.N,.N,.N,.N,.N,.N,.N,.N,.N,.N,.N,.N,.N,.N,.N,.N,.N] [] [] [0,1,5,63] [] rfl rfl rfl ⟨⟨(tc_ f),(cb_ g)⟩,(cb_ i)⟩ rfl (by kernel_rfl) rfl rfl rfl ?_
     refine tg_ hC [.K [0,1,5,63] []] rfl ?_
     cases h
     exact AK.met rfl
    rcases QB h with⟨j,h⟩|⟨j,h⟩
    ·refine AK.draw2 Qk hC mixed [.N,.N,.a .no (some ([],.b false)) false,.N,.N,.a .no (some ([],.b false)) false,.N,.N,.N,.N,.a .no (some ([],.b false)) false,.N,.N,.N,.N,.a .no (some ([],.b true)) false,.N,.N,.N,.N,.N,.N,.N,.N,.N,.N,.N,.N,.N,.N,.N,.N,.N,.N,.N,.N] [] [] [0,1,5,63] [] rfl rfl rfl ⟨⟨⟨(tc_ f),(cb_ g)⟩,(cb_ i)⟩,(cb_ j)⟩ rfl (by kernel_rfl) rfl rfl rfl ?_
     refine tg_ hC [.K [0,1,5,63] []] rfl ?_
     cases h
     exact AK.met rfl
    rcases QB h with⟨k,h⟩|⟨k,h⟩
    ·refine AK.draw2 Qk hC mixed [.N,.N,.a .no (some ([],.b false)) false,.N,.N,.a .no (some ([],.b false)) false,.N,.N,.N,.N,.a .no (some ([],.b false)) false,.N,.N,.N,.N,.a .no (some ([],.b false)) false,.N,.N,.N,.N,.N,.a .no (some ([],.b true)) false,.N,.N,.N,.N,.N,.N,.N,.N,.N,.N,.N,.N,.N,.N] [] [] [0,1,5,63] [] rfl rfl rfl ⟨⟨⟨⟨(tc_ f),(cb_ g)⟩,(cb_ i)⟩,(cb_ j)⟩,(cb_ k)⟩ rfl (by kernel_rfl) rfl rfl rfl ?_
     refine tg_ hC [.K [0,1,5,63] []] rfl ?_
     cases h
     exact AK.met rfl
    rcases QB h with⟨l,h⟩|⟨l,h⟩
    ·obtain⟨L,B,h⟩:=Qd h
     refine AK.draw2 Qk hC mixed [.N,.N,.a .no (some ([],.b false)) false,.N,.N,.a .no (some ([],.b false)) false,.N,.N,.N,.N,.a .no (some ([],.b false)) false,.N,.N,.N,.N,.a .no (some ([],.b false)) false,.N,.N,.N,.N,.N,.a .no (some ([],.b false)) false,.N,.N,.a .no (some ([],.b true)) false,.N,.N,.N,.N,.N,.a (.row (Qb L)) none false,.N,.N,.N,.N,.N] [] [] [0,1,5,63] [] rfl rfl rfl ⟨⟨⟨⟨⟨⟨(tc_ f),(cb_ g)⟩,(cb_ i)⟩,(cb_ j)⟩,(cb_ k)⟩,(cb_ l)⟩,(Qar B)⟩ rfl (by kernel_rfl) rfl rfl rfl ?_
     refine tg_ hC [.K [0,1,5,63] []] rfl ?_
     cases h
     exact AK.met rfl
    refine AK.draw2 Qk hC mixed [.N,.N,.a .no (some ([],.b false)) false,.N,.N,.a .no (some ([],.b false)) false,.N,.N,.N,.N,.a .no (some ([],.b false)) false,.N,.N,.N,.N,.a .no (some ([],.b false)) false,.N,.N,.N,.N,.N,.a .no (some ([],.b false)) false,.N,.N,.a .no (some ([],.b false)) false,.N,.N,.N,.N,.N,.N,.N,.N,.N,.N,.N] [] [] [0,1,5,63] [] rfl rfl rfl ⟨⟨⟨⟨⟨(tc_ f),(cb_ g)⟩,(cb_ i)⟩,(cb_ j)⟩,(cb_ k)⟩,(cb_ l)⟩ rfl (by kernel_rfl) rfl rfl rfl ?_
    refine tg_ hC [.K [0,1,5,63] []] rfl ?_
    cases h
    exact AK.met rfl
   rintro σ rfl
   replace h:Qdv E u=some o:=h
   refine tg_ hC [.n 1] rfl ?_
   refine bg_ h (fun m h=>Qa hC [.T,.n 8,.K [4] []] rfl ⟨tt_,m⟩ ?_) fun m h=>Qa hC [.F,.n 8,.K [0,1,5] []] rfl ⟨tt_,m⟩ ?_
   ·cases h
    exact QfS rfl (an_ rfl rfl)
   cases h
   exact QaR rfl rfl
  refine Qa hC [.F,.n 2,.K [] []] rfl ⟨tt_,t⟩ ?_
  cases h
  exact QaM rfl (an_ rfl rfl)
 rcases D with(_ | _)
 ·replace h:Qhx=some r:=h
  rintro e σ ⟨rfl,rfl⟩
  refine tg_ hC [.n 2] rfl ?_
  cases h
  exact d1_ rfl rfl tt_
 replace h:Qhy=some r:=h
 rintro e σ ⟨rfl,rfl⟩
 refine tg_ hC [.n 8] rfl ?_
 cases h
 exact d1_ rfl rfl tt_
def Qdw (g:(List Qe))(h:Qe)(a:(List Qe))(b:(List Qe)):Option Bool:=
 (QeL g h).bind fun c=>
 (Qb2 a c).bind fun d=>
 bif d then
 (Qd9 g h.Id).bind fun e=>
 (Qb2 b e).bind fun f=>
 some f
 else
 some false
def QaU (b:(List Qe))(c:Int)(a:Int):Option (Int⊕Unit):=
 (idx b c).bind fun d=>
 bif (decide (a<(d.Mode.Ins.length:Int)))then
 (idx b c).bind fun e=>
 (idx e.Mode.Ins a).bind fun f=>
 some (.inl (w64 (a+1)))
 else
 some (.inr ())
def Qdx (a:Int):Option (Int⊕Unit):=
 some (.inl (w64 (a+1)))
def Qaw (b:(List Qe))(a:Int):Option (Int⊕Unit):=
 bif (decide (a<(b.length:Int)))then
 (QK (fun st=>QaU b a st) 0).bind (fun q=>Qdx a)
 else
 some (.inr ())
def QfI (o:Bool)(b:Bool)(c:(List Qe))(d:Qe)(a:Int):Option Bool:=
 bif o then
 bif b then
 (QbN c d).bind fun e=>
 (QeL c d).bind fun f=>
 (Qb2 e f).bind fun g=>
 bif g then
 (Qc8 c d.Id).bind fun h=>
 (Qea c d.Id).bind fun i=>
 bif (h==i)then
 (QeJ c a).bind fun j=>
 (Qgg c a).bind fun k=>
 (QbU j k).bind fun l=>
 bif l then
 (QcP c a).bind fun m=>
 (QeR c a).bind fun n=>
 some (m==n)
 else
 some false
 else
 some false
 else
 some false
 else
 some false
 else
 some false
def Qdy (a:Bool):Option Bool:=
 some a
def Qdz (d:Bool)(a:Bool)(e:(List Qe))(f:Qe)(b:Int):Option Bool:=
 (QfI d a e f b).bind (fun c=>Qdy c)
def Qcg (c:(List Qe))(d:Bool)(e:(List Qe))(f:Qe)(b:Int)(a:Bool):Option Bool:=
 (QK (fun st=>Qaw c st) 0).bind (fun q=>Qdz d a e f b)
def Qb6 (b:(List Qe))(c:Qe)(d:Int):Option Bool:=
 (QgE).bind fun g=>
 (QeK b).bind fun h=>
 (QeK ([c]:List Qe)).bind fun i=>
 bif ((!h)||(!i))then
 some g
 else
 (QbN b c).bind fun e=>
 (Qct b c.Id).bind fun f=>
 (Qdw b c e f).bind (fun a=>Qcg e g b c d a)
theorem Qjf (O l j){r}(h:Qb6 O l j=some r):Qh prog 3 [.sl 11 (O.map Qb),.agg (Qb l),.I j] [] (Qp (.b r) []):=by
 refine Qh.walk 115 func3 rfl rfl rfl fun C hC=>?_
 obtain⟨x6,d7,h⟩:=Qd h
 obtain⟨x7,d8,h⟩:=Qd h
 obtain⟨x8,d9,h⟩:=Qd h
 refine Qa hC [.n 8,.o (.c false [] (.b x6)),.n 6,.o (.c false [.d] (.b x7)),.n 5,.v .no [] (.agg (Qb l)),.v (.bd []) [] (.sl 11 (([l]:List Qe).map Qb)),.o (.c false [.d] (.b x8)),.n 5] rfl ⟨⟨⟨⟨⟨tt_,(QkA  d7)⟩,(QiF _ d8)⟩,rfl⟩,rfl⟩,(QiF _ d9)⟩ ?_
 refine AK.meetX (fun σ=>σ=⟨[(0,.sl 11 (O.map Qb)),(2,.I j),(4,.loc 4 0 0),(7,.b x6),(26,.b ((!x7)||(!x8)))],[(4,.var (Qb l))]⟩) ?_ ?_
 ·refine tg_ hC [.n 4] rfl ?_
  rcases Qa6 (!x7)with z | z
  ·refine Qa hC [.S 23 (.b true),.n 4,.S 26 (.b ((!x7)||(!x8))),.K [0,2,4,7,26] [4]] rfl ⟨(tc_ z),(congrArg V.b (orT z rfl))⟩ ?_
   exact AK.met rfl
  refine Qa hC [.S 23 (.b false),.n 4,.S 26 (.b ((!x7)||(!x8))),.K [0,2,4,7,26] [4]] rfl ⟨(tc_ z),(congrArg V.b (orF z rfl))⟩ ?_
  exact AK.met rfl
 rintro σ rfl
 refine tg_ hC [.n 1] rfl ?_
 rcases QB h with⟨P,h⟩|⟨P,h⟩
 ·refine Qa hC [.T,.n 8] rfl ⟨tt_,P⟩ ?_
  cases h
  exact d1_ rfl rfl tt_
 obtain⟨k,c0,h⟩:=Qd h
 obtain⟨b3,c1,h⟩:=Qd h
 refine Qa hC [.F,.n 5,.v .no [] (.agg (Qb l))] rfl ⟨⟨tt_,P⟩,rfl⟩ ?_
 refine AK.opE rfl (Qns.thaw (g:=false) (Qaj.fn rfl (Qk.en rfl) rfl) rfl (Qt hC.n rfl) hC.g (.cons (.dat _ rfl) (.cons (.dat _ rfl) .nil)) (fun β=>(QhS β _ _ c0).toData Qj) (fun β=>QgX.map1 (g:=Qb) (Qnv β) fun _=>rfl) rfl) fun y=>?_
 refine Qa hC [.n 8,.o (.co false [.d,.d] 11 (b3.map Qb) b3.length),.n 4] rfl ⟨tt_,⟨(QhR _ _ c1),Qj,.inl rfl⟩⟩ ?_
 obtain⟨f,c3,h⟩:=Qd h
 replace h:Qcg k x6 O l j f=some r:=h
 refine AK.meetX (fun σ=>σ=⟨[(0,.sl 11 (O.map Qb)),(2,.I j),(4,.loc 4 0 0),(7,.b x6),(10,.lit y),(12,.b f)],[(4,.var (Qb l)),(30,.nst y (.sl 11 (k.map Qb)))]⟩) ?_ ?_
 ·replace h:=c3
  obtain⟨b4,c4,h⟩:=Qd h
  obtain⟨e0,c5,h⟩:=Qd h
  refine Qa hC [.n 3,.v .no [] (.agg (Qb l)),.o (.co false [.d,.d] 11 (b4.map Qb) b4.length),.o (.c true [.t 30,.o (b4.map Qb)] (.b e0)),.n 1] rfl ⟨⟨⟨tt_,rfl⟩,⟨(Qdd _ _ c4),Qj,.inl rfl⟩⟩,⟨rfl,(Qka rfl),(QbI _ _ c5)⟩⟩ ?_
  rcases QB h with⟨U,h⟩|⟨U,h⟩
  ·obtain⟨b5,c6,h⟩:=Qd h
   obtain⟨e4,c7,h⟩:=Qd h
   refine Qa hC [.S 40 (.b true),.n 4,.o (.co false [.d,.d] 11 (b5.map Qb) b5.length),.o (.c true [.o (b3.map Qb),.o (b5.map Qb)] (.b e4)),.n 3,.K [0,2,4,7,10,12] [4,30]] rfl ⟨⟨(tc_ U),⟨(Qh0 _ _ c6),Qj,.inl rfl⟩⟩,⟨(Qka rfl),(Qka rfl),(QbI _ _ c7)⟩⟩ ?_
   cases h
   exact AK.met rfl
  refine Qa hC [.S 40 (.b false),.n 9,.K [0,2,4,7,10,12] [4,30]] rfl (tc_ U) ?_
  cases h
  exact AK.met rfl
 rintro σ rfl
 replace h:Qcg k x6 O l j f=some r:=h
 refine tg_ hC [.n 8,.K [0,2,4,7,10,12,13] [4,30]] rfl ?_
 obtain⟨e5,c8,h⟩:=Qd h
 refine AK.scrib (d:=30) (q:=3) (z':=1) (rs:=k.map Qb) (ls:=k.map fun e=>e.Mode.Ins.length) rfl (by simp) (fun i r hr=>by
  obtain⟨e,he,rfl⟩:=Q8.1 (Q2▸hr)
  exact⟨e.Mode.Ins.map Qr,rfl,by rw [Q2,he];simp,by decide,fun u hu=>by obtain⟨n,_,rfl⟩:=QaE.1 hu;exact⟨n,rfl⟩⟩) fun D H hS=>?_
 obtain⟨a,c,rfl,hS⟩:=hS
 have hS2:∀{i:Int} {e:Qe},idx k i=some e→(0≤i∧i<((k.map fun e=>e.Mode.Ins.length).length:Int))∧∃b off y,a=some ⟨b,off,none⟩∧H b (off+i.toNat*11+1+2) y∧Qps 1 D y e.Mode.Ins.length:=fun {i e} he=>by
  obtain⟨h0,h1⟩:=Qbk he
  obtain⟨b,off,y,e1,e2,e3⟩:=hS i.toNat e.Mode.Ins.length (by rw [Q2,h1];rfl)
  have:=(Qx.1 h1).1
  exact⟨⟨h0,by rw [Qdi];omega⟩,b,off,y,e1,by rw [Qef,Qef];exact e2,e3⟩
 refine tg_ hC [.K [0,2,4,7,10,12,13] [4,30]] rfl ?_
 refine AK.loop (body:=(fun st=>Qaw k st)) (fun st σ=>σ=⟨[(0,.sl 11 (O.map Qb)),(2,.I j),(4,.loc 4 0 0),(7,.b x6),(10,.lit (.slice a (k.map fun e=>e.Mode.Ins.length).length c)),(12,.b f),(13,.I st)],[(4,.var (Qb l)),(30,.scr D H)]⟩) (fun q e σ=>e=.exit 0∧σ=⟨[(0,.sl 11 (O.map Qb)),(2,.I j),(4,.loc 4 0 0),(7,.b x6),(12,.b f)],[(4,.var (Qb l))]⟩) c8 rfl ?_ ?_
 ·rintro s o σ rfl h
  refine Qa hC [.n 5,.x (fun σ=>σ.put 50 (.I (k.map fun e=>e.Mode.Ins.length).length)),.S 50 (.I k.length),.n 3] rfl ⟨⟨tt_,Stp.lenLit rfl rfl (Qt hC.n rfl) rfl (Qk.es rfl)⟩,congrArg (fun n:Nat=>V.I n) (by simp)⟩ ?_
  refine bg_ h (fun W h=>Qa hC [.T,.n 10,.K [0,2,4,7,10,12,13,14] [4,30]] rfl ⟨tt_,W⟩ ?_) fun W h=>Qa hC [.F,.n 2,.K [0,2,4,7,12] [4]] rfl ⟨tt_,W⟩ ?_
  ·obtain⟨e6,c9,h⟩:=Qd h
   refine AK.loop (body:=(fun st=>QaU k s st)) (fun st σ=>σ=⟨[(0,.sl 11 (O.map Qb)),(2,.I j),(4,.loc 4 0 0),(7,.b x6),(10,.lit (.slice a (k.map fun e=>e.Mode.Ins.length).length c)),(12,.b f),(13,.I s),(14,.I st)],[(4,.var (Qb l)),(30,.scr D H)]⟩) (fun q e σ=>e=.exit 2∧σ=⟨[(0,.sl 11 (O.map Qb)),(2,.I j),(4,.loc 4 0 0),(7,.b x6),(10,.lit (.slice a (k.map fun e=>e.Mode.Ins.length).length c)),(12,.b f),(13,.I s)],[(4,.var (Qb l)),(30,.scr D H)]⟩) c9 rfl ?_ ?_
   ·rintro d0 o σ rfl h
    obtain⟨b6,a5,h⟩:=Qd h
    obtain⟨⟨d1,d2⟩,b,off,y,rfl,hH,a2,c2,rfl,hD⟩:=hS2 a5
    refine Qa hC [.n 6,.x (fun σ=>σ.put 57 (.lit (.pointer (some ⟨b,off+s.toNat*11,none⟩)))),.x (fun σ=>σ.put 58 (.lit (.pointer (some ⟨b,off+s.toNat*11+1,none⟩)))),.x (fun σ=>σ.put 59 (.lit (.pointer (some ⟨b,off+s.toNat*11+1+2,none⟩)))),.x (fun σ=>σ.put 60 (.lit (.slice a2 b6.Mode.Ins.length c2))),.x (fun σ=>σ.put 61 (.I b6.Mode.Ins.length)),.n 3] rfl ⟨⟨⟨⟨⟨tt_,Stp.idxLit rfl rfl (Qt hC.n rfl) rfl rfl (Qk.es rfl) d1 d2⟩,Stp.fieldLit rfl rfl (Qt hC.n rfl) rfl (Qk.fo rfl rfl)⟩,Stp.fieldLit rfl rfl (Qt hC.n rfl) rfl (Qk.fo rfl rfl)⟩,Stp.loadScr (p:=30) rfl rfl (Qt hC.n rfl) rfl (Qk.ag rfl) rfl hH⟩,Stp.lenLit rfl rfl (Qt hC.n rfl) rfl (Qk.es rfl)⟩ ?_
    rcases QB h with⟨X,h⟩|⟨X,h⟩
    ·obtain⟨f2,a6,h⟩:=Qd h
     obtain⟨f3,a7,h⟩:=Qd h
     rw [a5]at a6
     rw [←Option.some.inj a6]at a7
     obtain⟨e7,e8⟩:=Qbk a7
     have e9:=(Qx.1 e8).1
     obtain⟨b2,a8,rfl,hD2⟩:=hD d0.toNat e9
     refine Qa hC [.T,.n 7,.x (fun σ=>σ.put 67 (.lit (.pointer (some ⟨b,off+s.toNat*11,none⟩)))),.x (fun σ=>σ.put 68 (.lit (.pointer (some ⟨b,off+s.toNat*11+1,none⟩)))),.x (fun σ=>σ.put 69 (.lit (.pointer (some ⟨b,off+s.toNat*11+1+2,none⟩)))),.x (fun σ=>σ.put 70 (.lit (.slice (some ⟨b2,a8,none⟩) b6.Mode.Ins.length c2))),.n 1,.x (fun σ=>σ.put 72 (.lit (.pointer (some ⟨b2,a8+d0.toNat*1,none⟩)))),.x (fun σ=>σ.set 30 (.scr D H)),.n 8,.K [0,2,4,7,10,12,13,14] [4,30]] rfl ⟨⟨⟨⟨⟨⟨⟨tt_,X⟩,Stp.idxLit rfl rfl (Qt hC.n rfl) rfl rfl (Qk.es rfl) d1 d2⟩,Stp.fieldLit rfl rfl (Qt hC.n rfl) rfl (Qk.fo rfl rfl)⟩,Stp.fieldLit rfl rfl (Qt hC.n rfl) rfl (Qk.fo rfl rfl)⟩,Stp.loadScr (p:=30) rfl rfl (Qt hC.n rfl) rfl (Qk.ag rfl) rfl hH⟩,Stp.idxLit rfl rfl (Qt hC.n rfl) rfl rfl (Qk.es rfl) e7 (by omega)⟩,Stp.storeScr (p:=30) rfl rfl rfl rfl (Qk.sz rfl) rfl hD2⟩ ?_
     cases h
     exact QaR rfl rfl
    refine Qa hC [.F,.n 2,.K [0,2,4,7,10,12,13] [4,30]] rfl ⟨tt_,X⟩ ?_
    cases h
    exact QaM rfl (an_ rfl rfl)
   obtain _:=e6
   replace h:Qdx s=some o:=h
   rintro e σ ⟨rfl,rfl⟩
   refine tg_ hC [.n 8,.K [0,2,4,7,10,12,13] [4,30]] rfl ?_
   cases h
   exact QaR rfl rfl
  cases h
  exact QaM rfl (an_ rfl rfl)
 obtain _:=e5
 replace h:Qdz x6 f O l j=some r:=h
 rintro e σ ⟨rfl,rfl⟩
 refine tg_ hC [.n 3] rfl ?_
 obtain⟨b7,d3,h⟩:=Qd h
 replace h:Qdy b7=some r:=h
 refine AK.meetX (fun σ=>σ=⟨[(6,.b b7)],[]⟩) ?_ ?_
 ·replace h:=d3
  refine tg_ hC [.K [0,2,4,7,12] [4]] rfl ?_
  rcases QB h with⟨m,h⟩|⟨m,h⟩
  ·rcases QB h with⟨w,h⟩|⟨w,h⟩
   ·obtain⟨A,G,h⟩:=Qd h
    obtain⟨B,J,h⟩:=Qd h
    obtain⟨a1,L,h⟩:=Qd h
    rcases QB h with⟨E,h⟩|⟨E,h⟩
    ·obtain⟨b8,Y,h⟩:=Qd h
     obtain⟨b9,Z,h⟩:=Qd h
     rcases QB h with⟨M,h⟩|⟨M,h⟩
     ·obtain⟨a3,a9,h⟩:=Qd h
      obtain⟨a4,b0,h⟩:=Qd h
      obtain⟨d4,b1,h⟩:=Qd h
      rcases QB h with⟨a0,h⟩|⟨a0,h⟩
      ·obtain⟨f0,d5,h⟩:=Qd h
       obtain⟨f1,d6,h⟩:=Qd h
       refine AK.draw2 Qk hC mixed [.N,.a .no (some ([],.b true)) false,.N,.N,.a .no (some ([],.b true)) false,.N,.a .no (some ([],.agg (Qb l))) false,.a (.cd false [.d,.d] 11 (A.map Qb) A.length) none false,.N,.a .no (some ([],.agg (Qb l))) false,.a (.cd false [.d,.d] 11 (B.map Qb) B.length) none false,.a (.c false [.d,.d] (.b a1)) none false,.N,.a .no (some ([],.b true)) false,.N,.N,.N,.a (.c false [.d,.d] (.I b8)) none false,.N,.N,.N,.a (.c false [.d,.d] (.I b9)) none false,.N,.N,.a .no (some ([],.b true)) false,.N,.N,.a (.cd false [.d,.d] 1 (a3.map Qr) a3.length) none false,.N,.N,.a (.cd false [.d,.d] 1 (a4.map Qr) a4.length) none false,.a (.c false [.d,.d] (.b d4)) none false,.N,.a .no (some ([],.b true)) false,.N,.N,.a (.c false [.d,.d] (.b f0)) none false,.N,.N,.a (.c false [.d,.d] (.b f1)) none false,.N,.N,.N] [] [] [6] [] rfl rfl rfl ⟨⟨⟨⟨⟨⟨⟨⟨⟨⟨⟨⟨⟨⟨⟨⟨(tc_ m),(cb_ w)⟩,rfl⟩,⟨(QbE _ _ G),Qj⟩⟩,rfl⟩,⟨(Qdd _ _ J),Qj⟩⟩,(QbI _ _ L)⟩,(cb_ E)⟩,(QcS _ _ Y)⟩,(QdY _ _ Z)⟩,(cb_ M)⟩,⟨(QfW (fun _=>0) _ _ a9),Qj⟩⟩,⟨(QiG _ _ b0),Qj⟩⟩,(Qb0 _ _ b1)⟩,(cb_ a0)⟩,(QeX _ _ d5)⟩,(QkB _ _ d6)⟩ rfl (by kernel_rfl) rfl rfl rfl ?_
       refine tg_ hC [.K [6] []] rfl ?_
       cases h
       exact AK.met rfl
      refine AK.draw2 Qk hC mixed [.N,.a .no (some ([],.b true)) false,.N,.N,.a .no (some ([],.b true)) false,.N,.a .no (some ([],.agg (Qb l))) false,.a (.cd false [.d,.d] 11 (A.map Qb) A.length) none false,.N,.a .no (some ([],.agg (Qb l))) false,.a (.cd false [.d,.d] 11 (B.map Qb) B.length) none false,.a (.c false [.d,.d] (.b a1)) none false,.N,.a .no (some ([],.b true)) false,.N,.N,.N,.a (.c false [.d,.d] (.I b8)) none false,.N,.N,.N,.a (.c false [.d,.d] (.I b9)) none false,.N,.N,.a .no (some ([],.b true)) false,.N,.N,.a (.cd false [.d,.d] 1 (a3.map Qr) a3.length) none false,.N,.N,.a (.cd false [.d,.d] 1 (a4.map Qr) a4.length) none false,.a (.c false [.d,.d] (.b d4)) none false,.N,.a .no (some ([],.b false)) false,.N,.N,.N,.N,.N,.N,.N,.N,.N] [] [] [6] [] rfl rfl rfl ⟨⟨⟨⟨⟨⟨⟨⟨⟨⟨⟨⟨⟨⟨(tc_ m),(cb_ w)⟩,rfl⟩,⟨(QbE _ _ G),Qj⟩⟩,rfl⟩,⟨(Qdd _ _ J),Qj⟩⟩,(QbI _ _ L)⟩,(cb_ E)⟩,(QcS _ _ Y)⟩,(QdY _ _ Z)⟩,(cb_ M)⟩,⟨(QfW (fun _=>0) _ _ a9),Qj⟩⟩,⟨(QiG _ _ b0),Qj⟩⟩,(Qb0 _ _ b1)⟩,(cb_ a0)⟩ rfl (by kernel_rfl) rfl rfl rfl ?_
      refine tg_ hC [.K [6] []] rfl ?_
      cases h
      exact AK.met rfl
     refine AK.draw2 Qk hC mixed [.N,.a .no (some ([],.b true)) false,.N,.N,.a .no (some ([],.b true)) false,.N,.a .no (some ([],.agg (Qb l))) false,.a (.cd false [.d,.d] 11 (A.map Qb) A.length) none false,.N,.a .no (some ([],.agg (Qb l))) false,.a (.cd false [.d,.d] 11 (B.map Qb) B.length) none false,.a (.c false [.d,.d] (.b a1)) none false,.N,.a .no (some ([],.b true)) false,.N,.N,.N,.a (.c false [.d,.d] (.I b8)) none false,.N,.N,.N,.a (.c false [.d,.d] (.I b9)) none false,.N,.N,.a .no (some ([],.b false)) false,.N,.N,.N,.N,.N,.N,.N,.N,.N,.N,.N,.N,.N,.N,.N,.N,.N,.N] [] [] [6] [] rfl rfl rfl ⟨⟨⟨⟨⟨⟨⟨⟨⟨⟨(tc_ m),(cb_ w)⟩,rfl⟩,⟨(QbE _ _ G),Qj⟩⟩,rfl⟩,⟨(Qdd _ _ J),Qj⟩⟩,(QbI _ _ L)⟩,(cb_ E)⟩,(QcS _ _ Y)⟩,(QdY _ _ Z)⟩,(cb_ M)⟩ rfl (by kernel_rfl) rfl rfl rfl ?_
     refine tg_ hC [.K [6] []] rfl ?_
     cases h
     exact AK.met rfl
    refine AK.draw2 Qk hC mixed [.N,.a .no (some ([],.b true)) false,.N,.N,.a .no (some ([],.b true)) false,.N,.a .no (some ([],.agg (Qb l))) false,.a (.cd false [.d,.d] 11 (A.map Qb) A.length) none false,.N,.a .no (some ([],.agg (Qb l))) false,.a (.cd false [.d,.d] 11 (B.map Qb) B.length) none false,.a (.c false [.d,.d] (.b a1)) none false,.N,.a .no (some ([],.b false)) false,.N,.N,.N,.N,.N,.N,.N,.N,.N,.N,.N,.N,.N,.N,.N,.N,.N,.N,.N,.N,.N,.N,.N,.N,.N,.N,.N,.N,.N] [] [] [6] [] rfl rfl rfl ⟨⟨⟨⟨⟨⟨⟨(tc_ m),(cb_ w)⟩,rfl⟩,⟨(QbE _ _ G),Qj⟩⟩,rfl⟩,⟨(Qdd _ _ J),Qj⟩⟩,(QbI _ _ L)⟩,(cb_ E)⟩ rfl (by kernel_rfl) rfl rfl rfl ?_
    refine tg_ hC [.K [6] []] rfl ?_
    cases h
    exact AK.met rfl
   refine AK.draw2 Qk hC mixed [.N,.a .no (some ([],.b true)) false,.N,.N,.a .no (some ([],.b false)) false,.N,.N,.N,.N,.N,.N,.N,.N,.N,.N,.N,.N,.N,.N,.N,.N,.N,.N,.N,.N,.N,.N,.N,.N,.N,.N,.N,.N,.N,.N,.N,.N,.N,.N,.N,.N,.N,.N] [] [] [6] [] rfl rfl rfl ⟨(tc_ m),(cb_ w)⟩ rfl (by kernel_rfl) rfl rfl rfl ?_
   refine tg_ hC [.K [6] []] rfl ?_
   cases h
   exact AK.met rfl
  refine AK.draw2 Qk hC mixed [.N,.a .no (some ([],.b false)) false,.N,.N,.N,.N,.N,.N,.N,.N,.N,.N,.N,.N,.N,.N,.N,.N,.N,.N,.N,.N,.N,.N,.N,.N,.N,.N,.N,.N,.N,.N,.N,.N,.N,.N,.N,.N,.N,.N,.N,.N,.N] [] [] [6] [] rfl rfl rfl (tc_ m) rfl (by kernel_rfl) rfl rfl rfl ?_
  refine tg_ hC [.K [6] []] rfl ?_
  cases h
  exact AK.met rfl
 rintro σ rfl
 replace h:Qdy b7=some r:=h
 refine tg_ hC [.n 2] rfl ?_
 cases h
 exact d1_ rfl rfl tt_

end Go.Proofs
