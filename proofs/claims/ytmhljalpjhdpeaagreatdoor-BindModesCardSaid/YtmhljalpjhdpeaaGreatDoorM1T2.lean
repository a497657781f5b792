/- What functions of the program do, as functions over plain data, and the walks that show it: printed by a program. -/
import Derived.Test.YtmhljalpjhdpeaaGreatDoorM1T1
set_option linter.unusedVariables false
set_option linter.unusedSimpArgs false
set_option linter.unusedSectionVars false
set_option linter.deprecated false
set_option maxRecDepth 100000
set_option maxHeartbeats 4000000
noncomputable section
namespace Go.Proofs
open Go Go.RowKit Go.Vm Go.Proofs.Tryz
def QrB (d:Qn)(e:Int)(a:Int)(b:QD):Option Bool:=
 (idx d.Colours e).bind fun c=>
 bif (decide (100<(c.Name.size:Int)))then
 some true
 else
 some (decide (400<(w64 (a+(b.Names.length:Int)))))
def Qkq (e:Qn)(f:Int)(a:Int):Option (Int⊕(Unit⊕Unit)):=
 (idx e.Colours f).bind fun b=>
 bif (decide (a<(b.Names.length:Int)))then
 (idx e.Colours f).bind fun c=>
 (idx c.Names a).bind fun d=>
 bif (decide (100<(d.size:Int)))then
 some (.inr (.inl ()))
 else
 some (.inl (w64 (a+1)))
 else
 some (.inr (.inr ()))
def QrC : Option ((Int×Int)⊕(Unit⊕Int)):=
 some (.inr (.inl ()))
def QrD (a:Int)(b:QD)(c:Int):Option ((Int×Int)⊕(Unit⊕Int)):=
 some (.inl ((w64 (a+(b.Names.length:Int))),(w64 (c+1))))
def Qkr (e:Qn)(d:Int)(a:Int)(b:QD)(c:Bool):Option ((Int×Int)⊕(Unit⊕Int)):=
 bif c then
 some (.inr (.inl ()))
 else
 (Qz (fun st=>Qkq e d st) 0).bind (Sum.elim (fun q=>QrC) (fun q=>QrD a b d))
def Qks (c:Qn)(a:Int)(d:Int):Option ((Int×Int)⊕(Unit⊕Int)):=
 bif (decide (d<(c.Colours.length:Int)))then
 (idx c.Colours d).bind fun b=>
 (QrB c d a b).bind (fun e=>Qkr c d a b e)
 else
 some (.inr (.inr a))
def QrE : Option Bool:=
 some false
def Qkt (c:Qn)(a:Int)(b:Int):Option ((Int×Int)⊕(Unit⊕Int)):=
 bif (decide (b<(c.Places.length:Int)))then
 (idx c.Places b).bind fun d=>
 (idx c.Places b).bind fun e=>
 bif (decide (100<(e.Name.size:Int)))then
 some (.inr (.inl ()))
 else
 some (.inl ((w64 (a+(d.First.length:Int))),(w64 (b+1))))
 else
 some (.inr (.inr a))
def QrF : Option Bool:=
 some false
def Qjb (b:QF)(a:Int):Option (Int⊕(Unit⊕Unit)):=
 bif (decide (a<(b.Vars.length:Int)))then
 (idx b.Vars a).bind fun c=>
 bif (decide (100<(c.Name.size:Int)))then
 some (.inr (.inl ()))
 else
 some (.inl (w64 (a+1)))
 else
 some (.inr (.inr ()))
def QqF : Option ((Int×Int)⊕(Unit⊕Unit)):=
 some (.inr (.inl ()))
def Qjc (c:QF)(a:Bool)(b:Int):Option ((Bool×Int)⊕Bool):=
 bif (decide (b<(c.Ins.length:Int)))then
 (idx c.Ins b).bind fun d=>
 (QiJ d.Expr).bind fun e=>
 some (.inl ((a&&e),(w64 (b+1))))
 else
 some (.inr a)
def Qjd (c:QF)(a:Bool)(b:Int):Option ((Bool×Int)⊕Bool):=
 bif (decide (b<(c.Outs.length:Int)))then
 (idx c.Outs b).bind fun d=>
 (QiJ d.Expr).bind fun e=>
 some (.inl ((a&&e),(w64 (b+1))))
 else
 some (.inr a)
def Qje (a:Int)(b:QF)(d:Int)(c:Bool):Option ((Int×Int)⊕(Unit⊕Unit)):=
 bif (!c)then
 some (.inr (.inl ()))
 else
 some (.inl ((w64 ((w64 ((w64 ((w64 (a+(b.Vars.length:Int)))+(b.Ins.length:Int)))+(b.Outs.length:Int)))+(b.Cancel.length:Int))),(w64 (d+1))))
def Qjf (b:QF)(a:Int)(d:Int)(c:Bool):Option ((Int×Int)⊕(Unit⊕Unit)):=
 (Qz (fun st=>Qjd b st.1 st.2) (c,0)).bind (fun q=>Qje a b d q)
def Qjg (b:QF)(a:Int)(c:Int):Option ((Int×Int)⊕(Unit⊕Unit)):=
 (QiJ b.Guard).bind fun d=>
 (Qz (fun st=>Qjc b st.1 st.2) (d,0)).bind (fun q=>Qjf b a c q)
def Qjh (d:Qn)(b:Int)(c:Int):Option ((Int×Int)⊕(Unit⊕Unit)):=
 bif (decide (c<(d.Tasks.length:Int)))then
 (idx d.Tasks c).bind fun a=>
 bif ((decide (200<(w64 ((w64 ((w64 ((w64 (b+(a.Vars.length:Int)))+(a.Ins.length:Int)))+(a.Outs.length:Int)))+(a.Cancel.length:Int)))))||(decide (100<(a.Name.size:Int))))then
 some (.inr (.inl ()))
 else
 (Qz (fun st=>Qjb a st) 0).bind (Sum.elim (fun q=>QqF) (fun q=>Qjg a b c))
 else
 some (.inr (.inr ()))
def QqG : Option Bool:=
 some false
def QqH (a:Int):Option Bool:=
 some (decide (a<=400))
def Qji (b:Qn)(a:Int):Option Bool:=
 (Qz (fun st=>Qjh b st.1 st.2) (0,0)).bind (Sum.elim (fun q=>QqG) (fun q=>QqH a))
def Qjj (b:Qn)(a:Int):Option Bool:=
 (Qz (fun st=>Qkt b st.1 st.2) (a,0)).bind (Sum.elim (fun q=>QrF) (fun q=>Qji b q))
def Qle (a:Qn):Option Bool:=
 bif ((decide (40<(a.Colours.length:Int)))||((decide (70<(a.Places.length:Int)))||(decide (70<(a.Tasks.length:Int)))))then
 some false
 else
 (Qz (fun st=>Qks a st.1 st.2) (0,0)).bind (Sum.elim (fun q=>QrE) (fun q=>Qjj a q))
theorem QxL (j){r}(h:Qle j=some r):Qc prog 21 [.agg (Qd j)] [] (Gives (.b r) []):=by
 refine wk_ 201 func21 fun C i=>?_
 unfold Qle at h
 refine tg_ i [8] ?_
 refine AK.meetX (fun σ=>σ=⟨[lk_ 1,(31,.b ((decide (40<(j.Colours.length:Int)))||((decide (70<(j.Places.length:Int)))||(decide (70<(j.Tasks.length:Int))))))],[(1,.var (Qd j))]⟩) ?_ ?_
 ·refine Qa i [3,.o (.ln j.Colours.length),2] rfl (a1_ Qf) ?_
  rcases QE (decide (40<(j.Colours.length:Int)))with x | x
  ·refine Qa i [.S 20 (.b true),12,.S 31 (.b ((decide (40<(j.Colours.length:Int)))||((decide (70<(j.Places.length:Int)))||(decide (70<(j.Tasks.length:Int)))))),.K [1,31] [1]] rfl ⟨(tc_ x),(congrArg V.b (orT x rfl))⟩ ?_
   exact mt_
  refine Qa i [.S 20 (.b false),2,.o (.ln j.Places.length),3] rfl ⟨(tc_ x),Qf⟩ ?_
  rcases QE (decide (70<(j.Places.length:Int)))with y | y
  ·refine Qa i [.S 26 (.b true),6,.S 31 (.b ((decide (40<(j.Colours.length:Int)))||((decide (70<(j.Places.length:Int)))||(decide (70<(j.Tasks.length:Int)))))),.K [1,31] [1]] rfl ⟨(tc_ y),(congrArg V.b (orF x (orT y rfl)))⟩ ?_
   exact mt_
  refine Qa i [.S 26 (.b false),2,.o (.ln j.Tasks.length),3,.S 31 (.b ((decide (40<(j.Colours.length:Int)))||((decide (70<(j.Places.length:Int)))||(decide (70<(j.Tasks.length:Int)))))),.K [1,31] [1]] rfl ⟨⟨(tc_ y),Qf⟩,(congrArg V.b (orF x (orF y rfl)))⟩ ?_
  exact mt_
 rintro σ rfl
 refine tg_ i [1] ?_
 refine bq_ i h [.T,7,.K [2] []] rfl (fun a0 h=>?_) [.F,14,.K [1,3,4] [1]] rfl fun a0 h=>?_
 ·cases h
  exact d1_ tt_
 obtain⟨d1,a2,h⟩:=Qb h
 refine AK.loop (body:=(fun st=>Qks j st.1 st.2)) (fun st σ=>σ=⟨[lk_ 1,(3,.I st.1),(4,.I st.2)],[(1,.var (Qd j))]⟩) (Sum.elim (fun q e σ=>e=.ret/\σ=⟨[(2,.b false)],[]⟩) (fun q e σ=>e=.exit 0/\σ=⟨[lk_ 1,(3,.I q)],[(1,.var (Qd j))]⟩)) a2 rfl ?_ ?_
 ·rintro ⟨k,i9⟩ o σ rfl h
  refine Qa i [6,.o (.ln j.Colours.length),3] rfl (a1_ Qf) ?_
  rcases Qm h with⟨z,h⟩|⟨z,h⟩
  ·obtain⟨m,a3,h⟩:=Qb h
   refine Qa i [.T,10,.o (.row (Qq m)),2,.o (.ln m.Names.length),6] rfl (a3_ z (QJ a3) Qf) ?_
   obtain⟨a1,a4,h⟩:=Qb h
   replace h:Qkr j i9 k m a1=some o:=h
   refine AK.meetX (fun σ=>σ=⟨[lk_ 1,(3,.I (w64 (k+(m.Names.length:Int)))),(4,.I i9),(59,.b a1)],[(1,.var (Qd j))]⟩) ?_ ?_
   ·replace h:=a4
    obtain⟨d2,a5,h⟩:=Qb h
    refine Qa i [4,.o (.row (Qq d2)),5] rfl (a1_ (QJ a5)) ?_
    refine bg_ h (fun A h=>Qa i [.S 56 (.b true),4,.K [1,3,4,59] [1]] rfl (tc_ A) ?_) fun A h=>Qa i [.S 56 (.b false),4,.K [1,3,4,59] [1]] rfl (tc_ A) ?_
    ·cases h
     exact mt_
    cases h
    exact mt_
   rintro σ rfl
   replace h:Qkr j i9 k m a1=some o:=h
   refine tg_ i [1] ?_
   refine bq_ i h [.T,9,.K [2] []] rfl (fun B h=>?_) [.F,8,.K [1,3,4,5] [1]] rfl fun B h=>?_
   ·cases h
    exact Qah rfl (an_ rfl rfl)
   obtain⟨d3,a6,h⟩:=Qb h
   refine AK.loop (body:=(fun st=>Qkq j i9 st)) (fun st σ=>σ=⟨[lk_ 1,(3,.I (w64 (k+(m.Names.length:Int)))),(4,.I i9),(5,.I st)],[(1,.var (Qd j))]⟩) (Sum.elim (fun q e σ=>e=.ret/\σ=⟨[(2,.b false)],[]⟩) (fun q e σ=>e=.exit 2/\σ=⟨[lk_ 1,(3,.I (w64 (k+(m.Names.length:Int)))),(4,.I i9)],[(1,.var (Qd j))]⟩)) a6 rfl ?_ ?_
   ·rintro e4 o σ rfl h
    obtain⟨a7,a8,h⟩:=Qb h
    refine Qa i [7,.o (.row (Qq a7)),2,.o (.ln a7.Names.length),3] rfl (a2_ (QJ a8) Qf) ?_
    rcases Qm h with⟨D,h⟩|⟨D,h⟩
    ·obtain⟨d4,a9,h⟩:=Qb h
     obtain⟨d5,b0,h⟩:=Qb h
     refine Qa i [.T,9,.o (.row (Qq d4)),3,.o (.row (Qcx d5)),5] rfl (a3_ D (QJ a9) (QJ b0)) ?_
     refine bq_ i h [.T,8,.K [2] []] rfl (fun E h=>?_) [.F,8,.K [1,3,4,5] [1]] rfl fun E h=>?_
     ·cases h
      exact Qah rfl (an_ rfl rfl)
     cases h
     exact QY rfl rfl
    refine Qa i [.F,2,.K [1,3,4] [1]] rfl (a1_ D) ?_
    cases h
    exact QZ rfl (an_ rfl rfl)
   rcases d3 with(_ | _)
   ·replace h:QrC=some o:=h
    rintro e σ ⟨rfl,rfl⟩
    refine tg_ i [3,.K [2] []] ?_
    cases h
    exact Qah rfl (an_ rfl rfl)
   replace h:QrD k m i9=some o:=h
   rintro e σ ⟨rfl,rfl⟩
   refine tg_ i [8,.K [1,3,4] [1]] ?_
   cases h
   exact QY rfl rfl
  refine Qa i [.F,2,.K [1,3] [1]] rfl (a1_ z) ?_
  cases h
  exact QZ rfl (an_ rfl rfl)
 rcases d1 with(_ | G)
 ·replace h:QrE=some r:=h
  rintro e σ ⟨rfl,rfl⟩
  refine tg_ i [2] ?_
  cases h
  exact d1_ tt_
 replace h:Qjj j G=some r:=h
 rintro e σ ⟨rfl,rfl⟩
 refine tg_ i [9,.K [1,3,6] [1]] ?_
 obtain⟨d6,b1,h⟩:=Qb h
 refine AK.loop (body:=(fun st=>Qkt j st.1 st.2)) (fun st σ=>σ=⟨[lk_ 1,(3,.I st.1),(6,.I st.2)],[(1,.var (Qd j))]⟩) (Sum.elim (fun q e σ=>e=.ret/\σ=⟨[(2,.b false)],[]⟩) (fun q e σ=>e=.exit 4/\σ=⟨[lk_ 1,(3,.I q)],[(1,.var (Qd j))]⟩)) b1 rfl ?_ ?_
 ·rintro ⟨b2,e5⟩ o σ rfl h
  refine Qa i [6,.o (.ln j.Places.length),3] rfl (a1_ Qf) ?_
  rcases Qm h with⟨H,h⟩|⟨H,h⟩
  ·obtain⟨b3,b4,h⟩:=Qb h
   obtain⟨d7,b5,h⟩:=Qb h
   refine Qa i [.T,10,.o (.row (QC b3)),2,.o (.ln b3.First.length),9,.o (.row (QC d7)),6] rfl (a4_ H (QJ b4) Qf (QJ b5)) ?_
   refine bq_ i h [.T,8,.K [2] []] rfl (fun J h=>?_) [.F,8,.K [1,3,6] [1]] rfl fun J h=>?_
   ·cases h
    exact Qah rfl (an_ rfl rfl)
   cases h
   exact QY rfl rfl
  refine Qa i [.F,2,.K [1,3] [1]] rfl (a1_ H) ?_
  cases h
  exact QZ rfl (an_ rfl rfl)
 rcases d6 with(_ | g)
 ·replace h:QrF=some r:=h
  rintro e σ ⟨rfl,rfl⟩
  refine tg_ i [2] ?_
  cases h
  exact d1_ tt_
 replace h:Qji j g=some r:=h
 rintro e σ ⟨rfl,rfl⟩
 refine tg_ i [14,.K [1,3,7,8] [1]] ?_
 obtain⟨d8,b6,h⟩:=Qb h
 refine AK.loop (body:=(fun st=>Qjh j st.1 st.2)) (fun st σ=>σ=⟨[lk_ 1,(3,.I g),(7,.I st.1),(8,.I st.2)],[(1,.var (Qd j))]⟩) (Sum.elim (fun q e σ=>e=.ret/\σ=⟨[(2,.b false)],[]⟩) (fun q e σ=>e=.exit 6/\σ=⟨[(3,.I g)],[]⟩)) b6 rfl ?_ ?_
 ·rintro ⟨f,l⟩ o σ rfl h
  refine Qa i [6,.o (.ln j.Tasks.length),3] rfl (a1_ Qf) ?_
  rcases Qm h with⟨L,h⟩|⟨L,h⟩
  ·obtain⟨a,b7,h⟩:=Qb h
   refine Qa i [.T,9,.o (.row (Qj a)),.A (Qj a),2,.O 9 (.var (Qj a)),7,.o (.ln a.Vars.length),3,.o (.ln a.Ins.length),3,.o (.ln a.Outs.length),3,.o (.ln a.Cancel.length),6] rfl (a8_ L (QJ b7) rfl rfl Qf Qf Qf Qf) ?_
   refine AK.meetX (fun σ=>σ=⟨[lk_ 1,(3,.I g),(7,.I (w64 ((w64 ((w64 ((w64 (f+(a.Vars.length:Int)))+(a.Ins.length:Int)))+(a.Outs.length:Int)))+(a.Cancel.length:Int)))),(8,.I l),lk_ 9,(142,.b ((decide (200<(w64 ((w64 ((w64 ((w64 (f+(a.Vars.length:Int)))+(a.Ins.length:Int)))+(a.Outs.length:Int)))+(a.Cancel.length:Int)))))||(decide (100<(a.Name.size:Int)))))],[(1,.var (Qd j)),(9,.var (Qj a))]⟩) ?_ ?_
   ·refine tg_ i [4] ?_
    rcases QE (decide (200<(w64 ((w64 ((w64 ((w64 (f+(a.Vars.length:Int)))+(a.Ins.length:Int)))+(a.Outs.length:Int)))+(a.Cancel.length:Int)))))with p | p
    ·refine Qa i [.S 137 (.b true),6,.S 142 (.b ((decide (200<(w64 ((w64 ((w64 ((w64 (f+(a.Vars.length:Int)))+(a.Ins.length:Int)))+(a.Outs.length:Int)))+(a.Cancel.length:Int)))))||(decide (100<(a.Name.size:Int))))),.K [1,3,7,8,9,142] [1,9]] rfl ⟨(tc_ p),(congrArg V.b (orT p rfl))⟩ ?_
     exact mt_
    refine Qa i [.S 137 (.b false),6,.S 142 (.b ((decide (200<(w64 ((w64 ((w64 ((w64 (f+(a.Vars.length:Int)))+(a.Ins.length:Int)))+(a.Outs.length:Int)))+(a.Cancel.length:Int)))))||(decide (100<(a.Name.size:Int))))),.K [1,3,7,8,9,142] [1,9]] rfl ⟨(tc_ p),(congrArg V.b (orF p rfl))⟩ ?_
    exact mt_
   rintro σ rfl
   refine tg_ i [1] ?_
   refine bq_ i h [.T,9,.K [2] []] rfl (fun M h=>?_) [.F,9,.K [1,3,7,8,9,10] [1,9]] rfl fun M h=>?_
   ·cases h
    exact Qah rfl (an_ rfl rfl)
   obtain⟨d9,b8,h⟩:=Qb h
   refine AK.loop (body:=(fun st=>Qjb a st)) (fun st σ=>σ=⟨[lk_ 1,(3,.I g),(7,.I (w64 ((w64 ((w64 ((w64 (f+(a.Vars.length:Int)))+(a.Ins.length:Int)))+(a.Outs.length:Int)))+(a.Cancel.length:Int)))),(8,.I l),lk_ 9,(10,.I st)],[(1,.var (Qd j)),(9,.var (Qj a))]⟩) (Sum.elim (fun q e σ=>e=.ret/\σ=⟨[(2,.b false)],[]⟩) (fun q e σ=>e=.exit 8/\σ=⟨[lk_ 1,(3,.I g),(7,.I (w64 ((w64 ((w64 ((w64 (f+(a.Vars.length:Int)))+(a.Ins.length:Int)))+(a.Outs.length:Int)))+(a.Cancel.length:Int)))),(8,.I l),lk_ 9],[(1,.var (Qd j)),(9,.var (Qj a))]⟩)) b8 rfl ?_ ?_
   ·rintro e6 o σ rfl h
    refine Qa i [6,.o (.ln a.Vars.length),3] rfl (a1_ Qf) ?_
    rcases Qm h with⟨N,h⟩|⟨N,h⟩
    ·obtain⟨e0,b9,h⟩:=Qb h
     refine Qa i [.T,9,.o (.row (QO e0)),6] rfl (a2_ N (QJ b9)) ?_
     refine bq_ i h [.T,8,.K [2] []] rfl (fun P h=>?_) [.F,8,.K [1,3,7,8,9,10] [1,9]] rfl fun P h=>?_
     ·cases h
      exact Qah rfl (an_ rfl rfl)
     cases h
     exact QY rfl rfl
    refine Qa i [.F,2,.K [1,3,7,8,9] [1,9]] rfl (a1_ N) ?_
    cases h
    exact QZ rfl (an_ rfl rfl)
   rcases d9 with(_ | _)
   ·replace h:QqF=some o:=h
    rintro e σ ⟨rfl,rfl⟩
    refine tg_ i [4,.K [2] []] ?_
    cases h
    exact Qah rfl (an_ rfl rfl)
   replace h:Qjg a f l=some o:=h
   rintro e σ ⟨rfl,rfl⟩
   obtain⟨e1,c0,h⟩:=Qb h
   refine Qa i [5,.A (Qk a.Guard),.o (.C1 (.b e1)),10,.K [1,3,7,8,9,11,12] [1,9]] rfl (a2_ rfl (Qm6 _ c0)) ?_
   obtain⟨c1,c2,h⟩:=Qb h
   refine AK.loop (body:=(fun st=>Qjc a st.1 st.2)) (fun st σ=>σ=⟨[lk_ 1,(3,.I g),(7,.I (w64 ((w64 ((w64 ((w64 (f+(a.Vars.length:Int)))+(a.Ins.length:Int)))+(a.Outs.length:Int)))+(a.Cancel.length:Int)))),(8,.I l),lk_ 9,(11,.b st.1),(12,.I st.2)],[(1,.var (Qd j)),(9,.var (Qj a))]⟩) (fun q e σ=>e=.exit 10/\σ=⟨[lk_ 1,(3,.I g),(7,.I (w64 ((w64 ((w64 ((w64 (f+(a.Vars.length:Int)))+(a.Ins.length:Int)))+(a.Outs.length:Int)))+(a.Cancel.length:Int)))),(8,.I l),lk_ 9,(11,.b q)],[(1,.var (Qd j)),(9,.var (Qj a))]⟩) c2 rfl ?_ ?_
   ·rintro ⟨u,e2⟩ o σ rfl h
    refine Qa i [6,.o (.ln a.Ins.length),3] rfl (a1_ Qf) ?_
    rcases Qm h with⟨U,h⟩|⟨U,h⟩
    ·obtain⟨c3,c4,h⟩:=Qb h
     obtain⟨Y,c5,h⟩:=Qb h
     refine Qa i [.T,9,.o (.row (Q2 c3)),1,.A (Qk c3.Expr),.o (.C1 (.b Y)),3] rfl (a4_ U (QJ c4) rfl (Qm6 _ c5)) ?_
     refine AK.meetX (fun σ=>σ=⟨[lk_ 1,(3,.I g),(7,.I (w64 ((w64 ((w64 ((w64 (f+(a.Vars.length:Int)))+(a.Ins.length:Int)))+(a.Outs.length:Int)))+(a.Cancel.length:Int)))),(8,.I l),lk_ 9,(11,.b (u&&Y)),(12,.I e2)],[(1,.var (Qd j)),(9,.var (Qj a))]⟩) ?_ ?_
     ·refine tg_ i [3] ?_
      rcases QE u with s | s
      ·refine Qa i [.S 176 (.b true),4,.S 11 (.b (u&&Y)),.K [1,3,7,8,9,11,12] [1,9]] rfl ⟨(tc_ s),(congrArg V.b (Qaq s rfl))⟩ ?_
       exact mt_
      refine Qa i [.S 176 (.b false),4,.S 11 (.b (u&&Y)),.K [1,3,7,8,9,11,12] [1,9]] rfl ⟨(tc_ s),(congrArg V.b (Qa4 s rfl))⟩ ?_
      exact mt_
     rintro σ rfl
     refine tg_ i [7,.K [1,3,7,8,9,11,12] [1,9]] ?_
     cases h
     exact QY rfl rfl
    refine Qa i [.F,2,.K [1,3,7,8,9,11] [1,9]] rfl (a1_ U) ?_
    cases h
    exact QZ rfl (an_ rfl rfl)
   replace h:Qjf a f l c1=some o:=h
   rintro e σ ⟨rfl,rfl⟩
   refine tg_ i [9,.K [1,3,7,8,9,11,14] [1,9]] ?_
   obtain⟨c6,c7,h⟩:=Qb h
   refine AK.loop (body:=(fun st=>Qjd a st.1 st.2)) (fun st σ=>σ=⟨[lk_ 1,(3,.I g),(7,.I (w64 ((w64 ((w64 ((w64 (f+(a.Vars.length:Int)))+(a.Ins.length:Int)))+(a.Outs.length:Int)))+(a.Cancel.length:Int)))),(8,.I l),lk_ 9,(11,.b st.1),(14,.I st.2)],[(1,.var (Qd j)),(9,.var (Qj a))]⟩) (fun q e σ=>e=.exit 12/\σ=⟨[lk_ 1,(3,.I g),(7,.I (w64 ((w64 ((w64 ((w64 (f+(a.Vars.length:Int)))+(a.Ins.length:Int)))+(a.Outs.length:Int)))+(a.Cancel.length:Int)))),(8,.I l),(11,.b q)],[(1,.var (Qd j))]⟩) c7 rfl ?_ ?_
   ·rintro ⟨w,e3⟩ o σ rfl h
    refine Qa i [6,.o (.ln a.Outs.length),3] rfl (a1_ Qf) ?_
    rcases Qm h with⟨W,h⟩|⟨W,h⟩
    ·obtain⟨c8,c9,h⟩:=Qb h
     obtain⟨Z,d0,h⟩:=Qb h
     refine Qa i [.T,9,.o (.row (Q2 c8)),1,.A (Qk c8.Expr),.o (.C1 (.b Z)),3] rfl (a4_ W (QJ c9) rfl (Qm6 _ d0)) ?_
     refine AK.meetX (fun σ=>σ=⟨[lk_ 1,(3,.I g),(7,.I (w64 ((w64 ((w64 ((w64 (f+(a.Vars.length:Int)))+(a.Ins.length:Int)))+(a.Outs.length:Int)))+(a.Cancel.length:Int)))),(8,.I l),lk_ 9,(11,.b (w&&Z)),(14,.I e3)],[(1,.var (Qd j)),(9,.var (Qj a))]⟩) ?_ ?_
     ·refine tg_ i [3] ?_
      rcases QE w with t | t
      ·refine Qa i [.S 194 (.b true),4,.S 11 (.b (w&&Z)),.K [1,3,7,8,9,11,14] [1,9]] rfl ⟨(tc_ t),(congrArg V.b (Qaq t rfl))⟩ ?_
       exact mt_
      refine Qa i [.S 194 (.b false),4,.S 11 (.b (w&&Z)),.K [1,3,7,8,9,11,14] [1,9]] rfl ⟨(tc_ t),(congrArg V.b (Qa4 t rfl))⟩ ?_
      exact mt_
     rintro σ rfl
     refine tg_ i [7,.K [1,3,7,8,9,11,14] [1,9]] ?_
     cases h
     exact QY rfl rfl
    refine Qa i [.F,2,.K [1,3,7,8,11] [1]] rfl (a1_ W) ?_
    cases h
    exact QZ rfl (an_ rfl rfl)
   replace h:Qje f a l c6=some o:=h
   rintro e σ ⟨rfl,rfl⟩
   refine tg_ i [8] ?_
   refine bq_ i h [.T,8,.K [2] []] rfl (fun X h=>?_) [.F,8,.K [1,3,7,8] [1]] rfl fun X h=>?_
   ·cases h
    exact Qah rfl (an_ rfl rfl)
   cases h
   exact QY rfl rfl
  refine Qa i [.F,2,.K [3] []] rfl (a1_ L) ?_
  cases h
  exact QZ rfl (an_ rfl rfl)
 rcases d8 with(_ | _)
 ·replace h:QqG=some r:=h
  rintro e σ ⟨rfl,rfl⟩
  refine tg_ i [2] ?_
  cases h
  exact d1_ tt_
 replace h:QqH g=some r:=h
 rintro e σ ⟨rfl,rfl⟩
 refine tg_ i [10] ?_
 cases h
 exact d1_ tt_
def Qku (c:QMk)(d:Int)(a:Int):Option ((Int×Int)⊕Int):=
 bif ((decide (a<(c.length:Int)))&&(decide (a<100)))then
 (idx c a).bind fun b=>
 some (.inl ((w64 (d+(b.length:Int))),(w64 (a+1))))
 else
 some (.inr d)
def QrG (a:QMk)(b:Int):Option Bool:=
 some ((decide ((a.length:Int)<=70))&&(decide (b<=300)))
def Qnt (a:QMk):Option Bool:=
 (Qz (fun st=>Qku a st.1 st.2) (0,0)).bind (fun q=>QrG a q)
theorem QxM (a){r}(h:Qnt a=some r):Qc prog 22 [.sl 1 (a.map Qs)] [] (Gives (.b r) []):=by
 refine wk_ 29 func22 fun C d=>?_
 refine tg_ d [17,.K [0,3,4] []] ?_
 obtain⟨m,j,h⟩:=Qb h
 refine AK.loop (body:=(fun st=>Qku a st.1 st.2)) (fun st σ=>σ=⟨[(0,.sl 1 (a.map Qs)),(3,.I st.1),(4,.I st.2)],[]⟩) (fun q e σ=>e=.exit 0/\σ=⟨[(0,.sl 1 (a.map Qs)),(3,.I q)],[]⟩) j rfl ?_ ?_
 ·rintro ⟨p,i⟩ o σ rfl h
  refine tg_ d [2] ?_
  refine AK.meetX (fun σ=>σ=⟨[(0,.sl 1 (a.map Qs)),(3,.I p),(4,.I i),(12,.b ((decide (i<(a.length:Int)))&&(decide (i<100))))],[]⟩) ?_ ?_
  ·refine Qa d [3,.o (.ln a.length),2] rfl (a1_ Qf) ?_
   rcases QE (decide (i<(a.length:Int)))with f | f
   ·refine Qa d [.S 9 (.b true),4,.S 12 (.b ((decide (i<(a.length:Int)))&&(decide (i<100)))),.K [0,3,4,12] []] rfl ⟨(tc_ f),(congrArg V.b (Qaq f rfl))⟩ ?_
    exact mt_
   refine Qa d [.S 9 (.b false),4,.S 12 (.b ((decide (i<(a.length:Int)))&&(decide (i<100)))),.K [0,3,4,12] []] rfl ⟨(tc_ f),(congrArg V.b (Qa4 f rfl))⟩ ?_
   exact mt_
  rintro σ rfl
  refine tg_ d [1] ?_
  rcases Qm h with⟨g,h⟩|⟨g,h⟩
  ·obtain⟨k,l,h⟩:=Qb h
   refine Qa d [.T,8,.o (.row (Qs k)),1,.o (.ln k.length),10,.K [0,3,4] []] rfl (a3_ g (QJ l) Qf) ?_
   cases h
   exact QY rfl rfl
  refine Qa d [.F,2,.K [0,3] []] rfl (a1_ g) ?_
  cases h
  exact QZ rfl (an_ rfl rfl)
 replace h:QrG a m=some r:=h
 rintro e σ ⟨rfl,rfl⟩
 refine tg_ d [3] ?_
 refine AK.meetX (fun σ=>σ=⟨[(2,.b ((decide ((a.length:Int)<=70))&&(decide (m<=300))))],[]⟩) ?_ ?_
 ·refine Qa d [2,.o (.ln a.length),2] rfl (a1_ Qf) ?_
  rcases QE (decide ((a.length:Int)<=70))with c | c
  ·refine Qa d [.S 25 (.b true),5,.S 2 (.b ((decide ((a.length:Int)<=70))&&(decide (m<=300)))),.K [2] []] rfl ⟨(tc_ c),(congrArg V.b (Qaq c rfl))⟩ ?_
   exact mt_
  refine Qa d [.S 25 (.b false),5,.S 2 (.b ((decide ((a.length:Int)<=70))&&(decide (m<=300)))),.K [2] []] rfl ⟨(tc_ c),(congrArg V.b (Qa4 c rfl))⟩ ?_
  exact mt_
 rintro σ rfl
 refine tg_ d [2] ?_
 cases h
 exact d1_ tt_
def Qlv (a:Qn):Option Bool:=
 some ((decide ((a.Places.length:Int)<=64))&&(decide ((a.Tasks.length:Int)<=64)))
theorem QvO (a){r}(h:Qlv a=some r):Qc prog 48 [.L 616] [(616,.var (Qd a))] (Gives (.b r) [(616,.var (Qd a))]):=by
 refine wk_ 12 func48 fun C d=>?_
 refine tg_ d [6] ?_
 refine AK.meetX (fun σ=>σ=⟨[(1,.b ((decide ((a.Places.length:Int)<=64))&&(decide ((a.Tasks.length:Int)<=64))))],[(616,.var (Qd a))]⟩) ?_ ?_
 ·refine Qa d [3,.o (.ln a.Places.length),2] rfl (a1_ Qf) ?_
  rcases QE (decide ((a.Places.length:Int)<=64))with c | c
  ·refine Qa d [.S 6 (.b true),2,.o (.ln a.Tasks.length),4,.S 1 (.b ((decide ((a.Places.length:Int)<=64))&&(decide ((a.Tasks.length:Int)<=64)))),.K [1] [616]] rfl ⟨⟨(tc_ c),Qf⟩,(congrArg V.b (Qaq c rfl))⟩ ?_
   exact mt_
  refine Qa d [.S 6 (.b false),7,.S 1 (.b ((decide ((a.Places.length:Int)<=64))&&(decide ((a.Tasks.length:Int)<=64)))),.K [1] [616]] rfl ⟨(tc_ c),(congrArg V.b (Qa4 c rfl))⟩ ?_
  exact mt_
 rintro σ rfl
 refine tg_ d [2] ?_
 cases h
 exact d1_ r1_
def QaW (b:(List Q4))(a:Int):Option Bool:=
 some ((decide (0<=a))&&(decide (a<(b.length:Int))))
theorem Qcd (d c){r}(h:QaW d c=some r):Qc prog 50 [.sl 3 (d.map QC),.I c] [] (Gives (.b r) []):=by
 refine wk_ 13 func50 fun C e=>?_
 refine tg_ e [6] ?_
 refine AK.meetX (fun σ=>σ=⟨[(4,.b ((decide (0<=c))&&(decide (c<(d.length:Int)))))],[]⟩) ?_ ?_
 ·refine tg_ e [4] ?_
  rcases QE (decide (0<=c))with a | a
  ·refine Qa e [.S 7 (.b true),2,.o (.ln d.length),4,.S 4 (.b ((decide (0<=c))&&(decide (c<(d.length:Int))))),.K [4] []] rfl ⟨⟨(tc_ a),Qf⟩,(congrArg V.b (Qaq a rfl))⟩ ?_
   exact mt_
  refine Qa e [.S 7 (.b false),7,.S 4 (.b ((decide (0<=c))&&(decide (c<(d.length:Int))))),.K [4] []] rfl ⟨(tc_ a),(congrArg V.b (Qa4 a rfl))⟩ ?_
  exact mt_
 rintro σ rfl
 refine tg_ e [2] ?_
 cases h
 exact d1_ tt_
def Qpq (a:Qn):Option Bool:=
 (QaW a.Places a.From).bind fun b=>
 bif b then
 (QaW a.Places a.To).bind fun c=>
 some c
 else
 some false
def Qh4 (a:Bool):Option Bool:=
 some a
def Qlw (a:Qn):Option Bool:=
 (Qpq a).bind (fun b=>Qh4 b)
theorem QvP (f){r}(h:Qlw f=some r):Qc prog 49 [.L 616] [(616,.var (Qd f))] (Gives (.b r) [(616,.var (Qd f))]):=by
 refine wk_ 14 func49 fun C e=>?_
 refine tg_ e [6] ?_
 obtain⟨g,i,h⟩:=Qb h
 replace h:Qh4 g=some r:=h
 refine AK.meetX (fun σ=>σ=⟨[(1,.b g)],[(616,.var (Qd f))]⟩) ?_ ?_
 ·replace h:=i
  obtain⟨l,j,h⟩:=Qb h
  refine Qa e [5,.o (.C2 (.b l)),1] rfl (a1_ (Qcd _ _ j)) ?_
  rcases Qm h with⟨a,h⟩|⟨a,h⟩
  ·obtain⟨m,k,h⟩:=Qb h
   refine Qa e [.S 7 (.b true),4,.o (.C2 (.b m)),3,.K [1] [616]] rfl ⟨(tc_ a),(Qcd _ _ k)⟩ ?_
   cases h
   exact mt_
  refine Qa e [.S 7 (.b false),8,.K [1] [616]] rfl (tc_ a) ?_
  cases h
  exact mt_
 rintro σ rfl
 replace h:Qh4 g=some r:=h
 refine tg_ e [2] ?_
 cases h
 exact d1_ r1_
def Qlx (a:Qn):Option Bool:=
 some (a.From != a.To)
theorem QvQ (a){r}(h:Qlx a=some r):Qc prog 51 [.L 616] [(616,.var (Qd a))] (Gives (.b r) [(616,.var (Qd a))]):=by
 refine wk_ 7 func51 fun C c=>?_
 refine tg_ c [16] ?_
 cases h
 exact d1_ r1_
def Qly (a:Qn)(c:Int)(d:Int)(e:Int):Option Int:=
 (Qlv a).bind fun f=>
 bif (!f)then
 some c
 else
 (Qlw a).bind fun g=>
 bif (!g)then
 some d
 else
 (Qlx a).bind fun b=>
 bif (!b)then
 some e
 else
 some 0
theorem QvR (i l m p){r}(h:Qly i l m p=some r):Qc prog 47 [.own 616 3] [(616,.var [.clo (.func 48) [] [.L 617],.I l,.clo (.func 49) [] [.L 617],.I m,.clo (.func 51) [] [.L 617],.I p]),(617,.var (Qd i))] (Gives (.I r) [(616,.var [.clo (.func 48) [] [.L 617],.I l,.clo (.func 49) [] [.L 617],.I m,.clo (.func 51) [] [.L 617],.I p]),(617,.var (Qd i))]):=by
 refine wk_ 18 func47 fun C a=>?_
 refine tg_ a [14] ?_
 refine AK.loopN 4 (AK.rnd ?_)
 obtain⟨u,q,h⟩:=Qb h
 refine Qa a [2,.v .no [] (.b true),10,.o (.any (.L 616) none),3,.O 4 (.var [.clo (.func 48) [] [.L 617],.I l]),6,.cm (.clo) [(616,617)] [(617,616)] [] [.d] [(616,.var (Qd i))] (.b u),3] rfl (a4_ rfl (fun σ f j _=>Stp.idxV rfl rfl (QR a.n rfl) (f _ _ rfl) (f _ _ rfl) (Qo.es rfl) (j _ _ rfl) (by decide)) rfl (QvO _ q)) ?_
 refine bg_ h (fun g h=>Qa a [.T,13,.K [2] [616,617]] rfl (a1_ g) ?_) fun g h=>Qa a [.F,4,.v .no [] (.I 1),2] rfl (a2_ g rfl) ?_
 ·cases h
  exact d1_ r2_
 refine AK.met (AK.rnd ?_)
 obtain⟨w,s,h⟩:=Qb h
 refine Qa a [2,.v .no [] (.b true),10,.o (.any (.loc 616 0 2) none),1,.kill 4,2,.O 4 (.var [.clo (.func 49) [] [.L 617],.I m]),6,.cm (.clo) [(616,617)] [(617,616)] [] [.d] [(616,.var (Qd i))] (.b w),3] rfl (a4_ rfl (fun σ f j _=>Stp.idxV rfl rfl (QR a.n rfl) (f _ _ rfl) (f _ _ rfl) (Qo.es rfl) (j _ _ rfl) (by decide)) rfl (QvP _ s)) ?_
 refine bg_ h (fun c h=>Qa a [.T,13,.K [2] [616,617]] rfl (a1_ c) ?_) fun c h=>Qa a [.F,4,.v .no [] (.I 2),2] rfl (a2_ c rfl) ?_
 ·cases h
  exact d1_ r2_
 refine AK.met (AK.rnd ?_)
 obtain⟨t,k,h⟩:=Qb h
 refine Qa a [2,.v .no [] (.b true),10,.o (.any (.loc 616 0 4) none),1,.kill 4,2,.O 4 (.var [.clo (.func 51) [] [.L 617],.I p]),6,.cm (.clo) [(616,617)] [(617,616)] [] [.d] [(616,.var (Qd i))] (.b t),3] rfl (a4_ rfl (fun σ f j _=>Stp.idxV rfl rfl (QR a.n rfl) (f _ _ rfl) (f _ _ rfl) (Qo.es rfl) (j _ _ rfl) (by decide)) rfl (QvQ _ k)) ?_
 refine bg_ h (fun e h=>Qa a [.T,13,.K [2] [616,617]] rfl (a1_ e) ?_) fun e h=>Qa a [.F,4,.v .no [] (.I 3),2] rfl (a2_ e rfl) ?_
 ·cases h
  exact d1_ r2_
 refine AK.met (AK.rnd ?_)
 refine Qa a [2,.v .no [] (.b false),15] rfl (a1_ rfl) ?_
 cases h
 exact d1_ r2_
def Qkv (a:(List QD)):Option Bool:=
 (QeD a).bind fun b=>
 some b.2
theorem QuZ (e){r}(h:Qkv e=some r):Qc prog 95 [.sl 7 (e.map Qq)] [] (Gives (.b r) []):=by
 refine wk_ 11 func95 fun C g=>?_
 obtain⟨f,a,h⟩:=Qb h
 refine Qa g [8,.o (.C1 (.tup [.sl 1 (f.1.map Qe),.b f.2])),14] rfl (a1_ (Qod _ a)) ?_
 cases h
 exact d1_ tt_
def Qgg (b:Qn)(a:Int):Option Bool:=
 (chk (decide (0<=(w64 (a+1)))&&decide (0<=(w64 (a+1)).toNat)&&decide ((w64 (a+1)).toNat<=b.Colours.length))).bind fun _=>
 (Qkv ((b.Colours.drop 0).take ((w64 (a+1)).toNat-0))).bind fun c=>
 some c
theorem Qrj (e f){r}(h:Qgg e f=some r):Qc prog 94 [.L 616,.L 617] [(616,.var (Qd e)),(617,.var (Qe f))] (Gives (.b r) [(616,.var (Qd e)),(617,.var (Qe f))]):=by
 refine wk_ 9 func94 fun C i=>?_
 obtain⟨a,h⟩:=QaV h
 obtain⟨k,g,h⟩:=Qb h
 refine Qa i [11,.o (.any (.sl 7 (((e.Colours.drop 0).take ((w64 (f+1)).toNat-0)).map Qq)) none),.o (.C1 (.b k)),4] rfl (a2_ (fun σ j l _=>Stp.sliceD rfl rfl (QR i.n rfl) (j _ _ rfl) (Qo.es rfl) Bnd.no (Bnd.val (j _ _ rfl) (Qap (Qpc a)) rfl) (Qap (Qpd a)) (QbM (Qap (Qrt a)) (Nat.le_of_eq Qf.symm)) QsA) (QuZ _ g)) ?_
 cases h
 exact d1_ r2_
def Qpr (x:ByteArray):Option (List ByteArray):=(chk (Qy8 x)).bind fun _=>some (Qgv x)
theorem Qtk (x){r}(h:Qpr x=some r):Qc prog 219 [.s x] [] (Gives (.own 600 r.length) [(600,.arr 1 (r.map Qcx))]):=by
 obtain⟨_,a,h⟩:=Qb h
 cases h
 exact Qyu QBm (by kernel_rfl) (by kernel_rfl) x (Qz2 a)
def Qix  : Option (List ByteArray):=
 (Qpr (⟨#[99,111,108,111,117,114,32,112,108,97,99,101,32,116,97,115,107,32,118,97,114,32,119,104,101,110,32,106,111,105,110,32,115,112,108,105,116,32,105,110,32,111,117,116,32,99,97,110,99,101,108,32,97,102,116,101,114,32,109,97,110,121,32,102,114,111,109,32,116,111,32,105,110,116,32,101,110,117,109,32,112,97,105,114,32,97,110,100,32,120,111,114,32,111,114,32,105,102]⟩:ByteArray)).bind fun a=>
 some a
theorem QvS  {r:(List ByteArray)}(h:Qix  = some r):Qc prog 195 [] [] (Gives (.own 600 r.length) [(600,.arr 1 (r.map Qcx))]):=by
 refine wk_ 2 func195 fun C c=>?_
 obtain⟨b,a,h⟩:=Qb h
 refine Qa c [7,.o (.co false [.d] 1 (b.map Qcx) b.length),4,.K [0] [1],.ren 1 600] rfl (a1_ ⟨(Qtk _ a),Qf,.inl rfl⟩) ?_
 cases h
 exact d1_ r1_
def Qcg (b:(List ByteArray))(c:ByteArray)(a:Int):Option (Int⊕(Int⊕Unit)):=
 bif (decide (a<(b.length:Int)))then
 (idx b a).bind fun d=>
 bif (QbW c d)then
 some (.inr (.inl a))
 else
 some (.inl (w64 (a+1)))
 else
 some (.inr (.inr ()))
def Qch (a:Int):Option Int:=
 some a
def Qci : Option Int:=
 some (-1)
def Qc3 (a:(List ByteArray))(b:ByteArray):Option Int:=
 (Qz (fun st=>Qcg a b st) 0).bind (Sum.elim (fun q=>Qch q) (fun q=>Qci))
theorem Ql9 (d g){r}(h:Qc3 d g=some r):Qc prog 218 [.sl 1 (d.map Qcx),.s g] [] (Gives (.I r) []):=by
 refine wk_ 19 func218 fun C b=>?_
 refine Qa b [9,.o (.ln d.length),4,.K [0,1,7,8] []] rfl (a1_ Qf) ?_
 obtain⟨i,f,h⟩:=Qb h
 refine AK.loop (body:=(fun st=>Qcg d g st)) (fun st σ=>σ=⟨[(0,.sl 1 (d.map Qcx)),(1,.s g),(7,.I (d.length:Int)),(8,.I st)],[]⟩) (Sum.elim (fun q e σ=>e=.ret/\σ=⟨[(4,.I q)],[]⟩) (fun q e σ=>e=.exit 0/\σ=⟨[],[]⟩)) f rfl ?_ ?_
 ·rintro m o σ rfl h
  refine tg_ b [6] ?_
  rcases Qm h with⟨c,h⟩|⟨c,h⟩
  ·obtain⟨k,j,h⟩:=Qb h
   refine Qa b [.T,15,.o (.row (Qcx k)),4] rfl (a2_ c (QJ j)) ?_
   refine bq_ b h [.T,9,.K [4] []] rfl (fun a h=>?_) [.F,7,.K [0,1,7,8] []] rfl fun a h=>?_
   ·cases h
    exact Qah rfl (an_ rfl rfl)
   cases h
   exact QY rfl rfl
  refine Qa b [.F,2,.K [] []] rfl (a1_ c) ?_
  cases h
  exact QZ rfl (an_ rfl rfl)
 rcases i with(l | _)
 ·replace h:Qch l=some r:=h
  rintro e σ ⟨rfl,rfl⟩
  refine tg_ b [2] ?_
  cases h
  exact d1_ tt_
 replace h:Qci=some r:=h
 rintro e σ ⟨rfl,rfl⟩
 refine tg_ b [8] ?_
 cases h
 exact d1_ tt_
def Qcj (a:(List ByteArray))(b:ByteArray):Option Bool:=
 (Qc3 a b).bind fun c=>
 some (decide (0<=c))
theorem QkY (e f){r}(h:Qcj e f=some r):Qc prog 194 [.sl 1 (e.map Qcx),.s f] [] (Gives (.b r) []):=by
 refine wk_ 9 func194 fun C g=>?_
 obtain⟨i,a,h⟩:=Qb h
 refine Qa g [9,.o (.C2 (.I i)),5] rfl (a1_ (Ql9 _ _ a)) ?_
 cases h
 exact d1_ tt_
def QmE (a:ByteArray):Option Bool:=
 (Qix).bind fun b=>
 (Qcj b a).bind fun c=>
 some c
theorem QwR (g){r}(h:QmE g=some r):Qc prog 144 [.s g] [] (Gives (.b r) []):=by
 refine wk_ 6 func144 fun C i=>?_
 obtain⟨a,e,h⟩:=Qb h
 obtain⟨j,f,h⟩:=Qb h
 refine Qa i [7,.o (.co false [] 1 (a.map Qcx) a.length),1,.o (.c true [.o (a.map Qcx),.d] (.b j)),4] rfl (a2_ ⟨(QvS  e),Qf,.inl rfl⟩ ⟨(QoY rfl),(QkY _ _ f)⟩) ?_
 cases h
 exact d1_ tt_
def QqI (a:ByteArray):Option Bool:=
 (Qdn a).bind fun b=>
 bif b then
 (QmE a).bind fun c=>
 some (!c)
 else
 some false
def Qjk (a:Bool):Option Bool:=
 some a
def Qe1 (a:ByteArray):Option Bool:=
 (QqI a).bind (fun b=>Qjk b)
theorem QgH (k){r}(h:Qe1 k=some r):Qc prog 91 [.s k] [] (Gives (.b r) []):=by
 refine wk_ 10 func91 fun C e=>?_
 refine tg_ e [6] ?_
 obtain⟨f,g,h⟩:=Qb h
 replace h:Qjk f=some r:=h
 refine AK.meetX (fun σ=>σ=⟨[(2,.b f)],[]⟩) ?_ ?_
 ·replace h:=g
  obtain⟨l,i,h⟩:=Qb h
  refine Qa e [2,.o (.C1 (.b l)),1] rfl (a1_ (QlQ _ i)) ?_
  rcases Qm h with⟨a,h⟩|⟨a,h⟩
  ·obtain⟨m,j,h⟩:=Qb h
   refine Qa e [.S 5 (.b true),1,.o (.C1 (.b m)),4,.K [2] []] rfl ⟨(tc_ a),(QwR _ j)⟩ ?_
   cases h
   exact mt_
  refine Qa e [.S 5 (.b false),6,.K [2] []] rfl (tc_ a) ?_
  cases h
  exact mt_
 rintro σ rfl
 replace h:Qjk f=some r:=h
 refine tg_ e [2] ?_
 cases h
 exact d1_ tt_
def Qe7 (a:ByteArray):Option Bool:=
 (Qe1 a).bind fun b=>
 some (!b)
theorem Qps (e){r}(h:Qe7 e=some r):Qc prog 93 [.s e] [] (Gives (.b r) []):=by
 refine wk_ 6 func93 fun C f=>?_
 obtain⟨g,a,h⟩:=Qb h
 refine Qa f [8,.o (.C1 (.b g)),5] rfl (a1_ (QgH _ a)) ?_
 cases h
 exact d1_ tt_
def QbB (b:(List ByteArray))(a:Int):Option (Int⊕(Int⊕Unit)):=
 bif (decide (a<(b.length:Int)))then
 (idx b a).bind fun c=>
 (Qe7 c).bind fun d=>
 bif d then
 some (.inr (.inl a))
 else
 some (.inl (w64 (a+1)))
 else
 some (.inr (.inr ()))
def QbC (a:Int):Option Int:=
 some a
def QbD : Option Int:=
 some (-1)
def Qb7 (a:(List ByteArray)):Option Int:=
 (Qz (fun st=>QbB a st) 0).bind (Sum.elim (fun q=>QbC q) (fun q=>QbD))
theorem Qkw (i){r}(h:Qb7 i=some r):Qc prog 145 [.sl 1 (i.map Qcx),.clo (.func 93) [] []] [] (Gives (.I r) []):=by
 refine wk_ 19 func145 fun C f=>?_
 refine Qa f [9,.o (.ln i.length),4,.K [0,1,7,8] []] rfl (a1_ Qf) ?_
 obtain⟨k,j,h⟩:=Qb h
 refine AK.loop (body:=(fun st=>QbB i st)) (fun st σ=>σ=⟨[(0,.sl 1 (i.map Qcx)),(1,.clo (.func 93) [] []),(7,.I (i.length:Int)),(8,.I st)],[]⟩) (Sum.elim (fun q e σ=>e=.ret/\σ=⟨[(4,.I q)],[]⟩) (fun q e σ=>e=.exit 0/\σ=⟨[],[]⟩)) j rfl ?_ ?_
 ·rintro u o σ rfl h
  refine tg_ f [6] ?_
  rcases Qm h with⟨g,h⟩|⟨g,h⟩
  ·obtain⟨p,l,h⟩:=Qb h
   obtain⟨s,m,h⟩:=Qb h
   refine Qa f [.T,15,.o (.row (Qcx p)),1,.o (.C1 (.b s)),2] rfl (a3_ g (QJ l) (Qps _ m)) ?_
   refine bq_ f h [.T,9,.K [4] []] rfl (fun a h=>?_) [.F,7,.K [0,1,7,8] []] rfl fun a h=>?_
   ·cases h
    exact Qah rfl (an_ rfl rfl)
   cases h
   exact QY rfl rfl
  refine Qa f [.F,2,.K [] []] rfl (a1_ g) ?_
  cases h
  exact QZ rfl (an_ rfl rfl)
 rcases k with(t | _)
 ·replace h:QbC t=some r:=h
  rintro e σ ⟨rfl,rfl⟩
  refine tg_ f [2] ?_
  cases h
  exact d1_ tt_
 replace h:QbD=some r:=h
 rintro e σ ⟨rfl,rfl⟩
 refine tg_ f [8] ?_
 cases h
 exact d1_ tt_
def QbE (a:(List ByteArray)):Option Bool:=
 (Qb7 a).bind fun b=>
 some (decide (0<=b))
theorem QiR (c){r}(h:QbE c=some r):Qc prog 92 [.sl 1 (c.map Qcx),.clo (.func 93) [] []] [] (Gives (.b r) []):=by
 refine wk_ 9 func92 fun C e=>?_
 obtain⟨f,a,h⟩:=Qb h
 refine Qa e [9,.cm (.fn) [] [] [] [.d,.d] [] (.I f),5] rfl (a1_ (Qkw _ a)) ?_
 cases h
 exact d1_ tt_
def Qlf (a:QD):Option Bool:=
 (Qe1 a.Name).bind fun b=>
 bif b then
 bif (a.Kind != 2)then
 some true
 else
 (QbE a.Names).bind fun c=>
 some (!c)
 else
 some false
def QeT (a:Bool):Option Bool:=
 some a
def Qgh (a:QD):Option Bool:=
 (Qlf a).bind (fun b=>QeT b)
theorem Qrk (g){r}(h:Qgh g=some r):Qc prog 90 [.L 616] [(616,.var (Qq g))] (Gives (.b r) [(616,.var (Qq g))]):=by
 refine wk_ 16 func90 fun C a=>?_
 refine tg_ a [6] ?_
 obtain⟨i,j,h⟩:=Qb h
 replace h:QeT i=some r:=h
 refine AK.meetX (fun σ=>σ=⟨[(1,.b i)],[(616,.var (Qq g))]⟩) ?_ ?_
 ·replace h:=j
  obtain⟨m,k,h⟩:=Qb h
  refine Qa a [3,.o (.C1 (.b m)),1] rfl (a1_ (QgH _ k)) ?_
  refine bg_ h (fun e h=>Qa a [.S 5 (.b true),4] rfl (tc_ e) ?_) fun e h=>Qa a [.S 5 (.b false),12,.K [1] [616]] rfl (tc_ e) ?_
  ·rcases Qm h with⟨f,h⟩|⟨f,h⟩
   ·refine Qa a [.S 9 (.b true),8,.K [1] [616]] rfl (tc_ f) ?_
    cases h
    exact mt_
   obtain⟨p,l,h⟩:=Qb h
   refine Qa a [.S 9 (.b false),2,.cm (.fn) [] [] [] [.d,.d] [] (.b p),5,.K [1] [616]] rfl ⟨(tc_ f),(QiR _ l)⟩ ?_
   cases h
   exact mt_
  cases h
  exact mt_
 rintro σ rfl
 replace h:QeT i=some r:=h
 refine tg_ a [2] ?_
 cases h
 exact d1_ r1_
def Qh5 (b:Qn)(c:Int)(d:Int)(e:QD)(f:Int):Option Int:=
 (Qgg b c).bind fun g=>
 bif (!g)then
 some d
 else
 (Qgh e).bind fun a=>
 bif (!a)then
 some f
 else
 some 0
theorem Qtl (i j k l m){r}(h:Qh5 i j k l m=some r):Qc prog 47 [.own 616 2] [(616,.var [.clo (.func 94) [] [.L 617,.L 618],.I k,.clo (.func 90) [] [.L 619],.I m]),(617,.var (Qd i)),(618,.var (Qe j)),(619,.var (Qq l))] (Gives (.I r) [(616,.var [.clo (.func 94) [] [.L 617,.L 618],.I k,.clo (.func 90) [] [.L 619],.I m]),(617,.var (Qd i)),(618,.var (Qe j)),(619,.var (Qq l))]):=by
 refine wk_ 18 func47 fun C c=>?_
 refine tg_ c [14] ?_
 refine AK.loopN 3 (AK.rnd ?_)
 obtain⟨t,p,h⟩:=Qb h
 refine Qa c [2,.v .no [] (.b true),10,.o (.any (.L 616) none),3,.O 4 (.var [.clo (.func 94) [] [.L 617,.L 618],.I k]),6,.cm (.clo) [(616,617),(617,618)] [(617,616),(618,617)] [] [.d,.d] [(616,.var (Qd i)),(617,.var (Qe j))] (.b t),3] rfl (a4_ rfl (fun σ f q _=>Stp.idxV rfl rfl (QR c.n rfl) (f _ _ rfl) (f _ _ rfl) (Qo.es rfl) (q _ _ rfl) (by decide)) rfl (Qrj _ _ p)) ?_
 refine bg_ h (fun e h=>Qa c [.T,13,.K [2] [616,617,618,619]] rfl (a1_ e) ?_) fun e h=>Qa c [.F,4,.v .no [] (.I 1),2] rfl (a2_ e rfl) ?_
 ·cases h
  exact d1_ r4_
 refine AK.met (AK.rnd ?_)
 obtain⟨s,g,h⟩:=Qb h
 refine Qa c [2,.v .no [] (.b true),10,.o (.any (.loc 616 0 2) none),1,.kill 4,2,.O 4 (.var [.clo (.func 90) [] [.L 619],.I m]),6,.cm (.clo) [(616,619)] [(619,616)] [] [.d] [(616,.var (Qq l))] (.b s),3] rfl (a4_ rfl (fun σ f q _=>Stp.idxV rfl rfl (QR c.n rfl) (f _ _ rfl) (f _ _ rfl) (Qo.es rfl) (q _ _ rfl) (by decide)) rfl (Qrk _ g)) ?_
 refine bg_ h (fun a h=>Qa c [.T,13,.K [2] [616,617,618,619]] rfl (a1_ a) ?_) fun a h=>Qa c [.F,4,.v .no [] (.I 2),2] rfl (a2_ a rfl) ?_
 ·cases h
  exact d1_ r4_
 refine AK.met (AK.rnd ?_)
 refine Qa c [2,.v .no [] (.b false),15] rfl (a1_ rfl) ?_
 cases h
 exact d1_ r4_
def Qhf (a:Int)(b:QD)(c:Qn):Option Int:=
 (Qh5 c a 8 b 8).bind fun d=>
 some d
theorem QsL (b c a){r}(h:Qhf b c a=some r):Qc prog 89 [.I b,.agg (Qq c),.L 616] [(616,.var (Qd a))] (Gives (.I r) [(616,.var (Qd a))]):=by
 refine wk_ 16 func89 fun C f=>?_
 obtain⟨g,e,h⟩:=Qb h
 refine Qa f [22,.A [.clo (.func 94) [] [.L 616,.L 3],.I 8],1,.A [.clo (.func 90) [] [.L 4],.I 8],.o (.any (.own 14 2) (some (.var [.clo (.func 94) [] [.L 616,.L 3],.I 8,.clo (.func 90) [] [.L 4],.I 8]))),.cm (.fn) [(616,14),(617,616),(618,3),(619,4)] [(14,616),(616,617),(3,618),(4,619)] [] [.d] [(616,.var [.clo (.func 94) [] [.L 617,.L 618],.I 8,.clo (.func 90) [] [.L 619],.I 8]),(617,.var (Qd a)),(618,.var (Qe b)),(619,.var (Qq c))] (.I g),4] rfl (a4_ rfl rfl (fun σ i j hf=>Stp.buildAny rfl rfl (QR f.n rfl) (Qo.es rfl) QnD rfl (by decide) (by decide) (QfV i rfl) rfl rfl (hf rfl)) (Qtl _ _ _ _ _ e)) ?_
 cases h
 exact d1_ r1_
def Qdp (d:(List QD))(e:Qn)(a:Int):Option (Int⊕((Int×Int)⊕Unit)):=
 bif (decide (a<(d.length:Int)))then
 (idx d a).bind fun c=>
 (Qhf a c e).bind fun b=>
 bif (b != 0)then
 some (.inr (.inl (a,b)))
 else
 some (.inl (w64 (a+1)))
 else
 some (.inr (.inr ()))
def Qdq (b:Int)(a:Int):Option (Int×Int):=
 some (b,a)
def Qdr : Option (Int×Int):=
 some (0,0)
def Qeq (a:(List QD))(b:Qn):Option (Int×Int):=
 (Qz (fun st=>Qdp a b st) 0).bind (Sum.elim (fun q=>Qdq q.1 q.2) (fun q=>Qdr))
theorem QnZ (i f){r}(h:Qeq i f=some r):Qc prog 88 [.sl 7 (i.map Qq),.clo (.func 89) [] [.L 616]] [(616,.var (Qd f))] (Gives (.tup [.I r.1,.I r.2]) [(616,.var (Qd f))]):=by
 refine wk_ 25 func88 fun C g=>?_
 refine Qa g [10,.o (.ln i.length),4,.K [1,9,10,11] [616]] rfl (a1_ Qf) ?_
 obtain⟨m,j,h⟩:=Qb h
 refine AK.loop (body:=(fun st=>Qdp i f st)) (fun st σ=>σ=⟨[(1,.clo (.func 89) [] [.L 616]),(9,.sl 7 (i.map Qq)),(10,.I (i.length:Int)),(11,.I st)],[(616,.var (Qd f))]⟩) (Sum.elim (fun q e σ=>e=.ret/\σ=⟨[(4,.I q.1),(5,.I q.2)],[(616,.var (Qd f))]⟩) (fun q e σ=>e=.exit 0/\σ=⟨[],[(616,.var (Qd f))]⟩)) j rfl ?_ ?_
 ·rintro u o σ rfl h
  refine tg_ g [6] ?_
  rcases Qm h with⟨a,h⟩|⟨a,h⟩
  ·obtain⟨c,k,h⟩:=Qb h
   obtain⟨p,l,h⟩:=Qb h
   refine Qa g [.T,7,.o (.row (Qq c)),.A (Qq c),3,.O 7 (.var (Qq c)),6,.A (Qq c),.cm (.clo) [(616,616)] [(616,616)] [] [.d,.d,.d] [(616,.var (Qd f))] (.I p),9] rfl (a6_ a (QJ k) rfl rfl rfl (QsL _ _ _ l)) ?_
   refine bq_ g h [.T,11,.K [4,5] [616]] rfl (fun b h=>?_) [.F,7,.K [1,9,10,11] [616]] rfl fun b h=>?_
   ·cases h
    exact Qah rfl (an_ rfl rfl)
   cases h
   exact QY rfl rfl
  refine Qa g [.F,2,.K [] [616]] rfl (a1_ a) ?_
  cases h
  exact QZ rfl (an_ rfl rfl)
 rcases m with(⟨t,s⟩|_)
 ·replace h:Qdq t s=some r:=h
  rintro e σ ⟨rfl,rfl⟩
  refine tg_ g [2] ?_
  cases h
  exact d2_ r1_
 replace h:Qdr=some r:=h
 rintro e σ ⟨rfl,rfl⟩
 refine tg_ g [9] ?_
 cases h
 exact d2_ r1_
def QgI (a:Qn):Option (Int×Int):=
 (Qeq a.Colours a).bind fun b=>
 some (b.1,b.2)
theorem QnH (a){r}(h:QgI a=some r):Qc prog 52 [.agg (Qd a)] [] (Gives (.tup [.I r.1,.I r.2]) []):=by
 refine wk_ 10 func52 fun C e=>?_
 obtain⟨c,b,h⟩:=Qb h
 refine Qa e [12,.cm (.fn) [(616,1)] [(1,616)] [] [.d,.d] [(616,.var (Qd a))] (.tup [.I c.1,.I c.2]),7] rfl (a1_ (QnZ _ _ b)) ?_
 cases h
 exact d2_ tt_
def Qjl (a:Q4):Option Bool:=
 (Qe1 a.Name).bind fun b=>
 some b
theorem Qt7 (a){r}(h:Qjl a=some r):Qc prog 97 [.L 616] [(616,.var (QC a))] (Gives (.b r) [(616,.var (QC a))]):=by
 refine wk_ 5 func97 fun C f=>?_
 obtain⟨g,e,h⟩:=Qb h
 refine Qa f [9,.o (.C1 (.b g)),4] rfl (a1_ (QgH _ e)) ?_
 cases h
 exact d1_ r1_
def Qjm (a:Q4)(b:Q4):Option Bool:=
 some (QbW a.Name b.Name)
theorem Qt8 (c a){r}(h:Qjm c a=some r):Qc prog 96 [.agg (QC c),.L 616] [(616,.var (QC a))] (Gives (.b r) [(616,.var (QC a))]):=by
 refine wk_ 9 func96 fun C d=>?_
 refine tg_ d [17] ?_
 cases h
 exact d1_ r1_
def QaX (c:(List Q4))(d:Q4)(a:Int):Option (Int⊕(Int⊕Unit)):=
 bif (decide (a<(c.length:Int)))then
 (idx c a).bind fun e=>
 (Qjm e d).bind fun b=>
 bif b then
 some (.inr (.inl a))
 else
 some (.inl (w64 (a+1)))
 else
 some (.inr (.inr ()))
def QaY (a:Int):Option Int:=
 some a
def QaZ : Option Int:=
 some (-1)
def Qbh (a:(List Q4))(b:Q4):Option Int:=
 (Qz (fun st=>QaX a b st) 0).bind (Sum.elim (fun q=>QaY q) (fun q=>QaZ))
theorem QhN (i c){r}(h:Qbh i c=some r):Qc prog 147 [.sl 3 (i.map QC),.clo (.func 96) [] [.L 616]] [(616,.var (QC c))] (Gives (.I r) [(616,.var (QC c))]):=by
 refine wk_ 19 func147 fun C f=>?_
 refine Qa f [9,.o (.ln i.length),4,.K [0,1,7,8] [616]] rfl (a1_ Qf) ?_
 obtain⟨l,j,h⟩:=Qb h
 refine AK.loop (body:=(fun st=>QaX i c st)) (fun st σ=>σ=⟨[(0,.sl 3 (i.map QC)),(1,.clo (.func 96) [] [.L 616]),(7,.I (i.length:Int)),(8,.I st)],[(616,.var (QC c))]⟩) (Sum.elim (fun q e σ=>e=.ret/\σ=⟨[(4,.I q)],[(616,.var (QC c))]⟩) (fun q e σ=>e=.exit 0/\σ=⟨[],[(616,.var (QC c))]⟩)) j rfl ?_ ?_
 ·rintro u o σ rfl h
  refine tg_ f [6] ?_
  rcases Qm h with⟨g,h⟩|⟨g,h⟩
  ·obtain⟨s,m,h⟩:=Qb h
   obtain⟨p,k,h⟩:=Qb h
   refine Qa f [.T,15,.o (.row (QC s)),.A (QC s),.cm (.clo) [(616,616)] [(616,616)] [] [.d,.d] [(616,.var (QC c))] (.b p),2] rfl (a4_ g (QJ m) rfl (Qt8 _ _ k)) ?_
   refine bq_ f h [.T,9,.K [4] [616]] rfl (fun a h=>?_) [.F,7,.K [0,1,7,8] [616]] rfl fun a h=>?_
   ·cases h
    exact Qah rfl (an_ rfl rfl)
   cases h
   exact QY rfl rfl
  refine Qa f [.F,2,.K [] [616]] rfl (a1_ g) ?_
  cases h
  exact QZ rfl (an_ rfl rfl)
 rcases l with(t | _)
 ·replace h:QaY t=some r:=h
  rintro e σ ⟨rfl,rfl⟩
  refine tg_ f [2] ?_
  cases h
  exact d1_ r1_
 replace h:QaZ=some r:=h
 rintro e σ ⟨rfl,rfl⟩
 refine tg_ f [8] ?_
 cases h
 exact d1_ r1_
def Qa0 (a:(List Q4))(b:Q4):Option Bool:=
 (Qbh a b).bind fun c=>
 some (decide (0<=c))
theorem Qg4 (e a){r}(h:Qa0 e a=some r):Qc prog 99 [.sl 3 (e.map QC),.clo (.func 96) [] [.L 616]] [(616,.var (QC a))] (Gives (.b r) [(616,.var (QC a))]):=by
 refine wk_ 9 func99 fun C f=>?_
 obtain⟨g,c,h⟩:=Qb h
 refine Qa f [9,.cm (.fn) [(616,616)] [(616,616)] [] [.d,.d] [(616,.var (QC a))] (.I g),5] rfl (a1_ (QhN _ _ c)) ?_
 cases h
 exact d1_ r1_
def Qjn (b:Qn)(a:Int)(c:Q4):Option Bool:=
 (chk (decide (0<=a)&&decide (0<=a.toNat)&&decide (a.toNat<=b.Places.length))).bind fun _=>
 (Qa0 ((b.Places.drop 0).take (a.toNat-0)) c).bind fun d=>
 some (!d)
theorem Qt9 (f g i){r}(h:Qjn f g i=some r):Qc prog 98 [.L 616,.L 617,.L 618] [(616,.var (Qd f)),(617,.var (Qe g)),(618,.var [.clo (.func 96) [] [.L 619]]),(619,.var (QC i))] (Gives (.b r) [(616,.var (Qd f)),(617,.var (Qe g)),(618,.var [.clo (.func 96) [] [.L 619]]),(619,.var (QC i))]):=by
 refine wk_ 11 func98 fun C e=>?_
 obtain⟨c,h⟩:=QaV h
 obtain⟨l,k,h⟩:=Qb h
 refine tg_ e [6,.K [0,1,2,3] [616,617,618,619]] ?_
 refine AK.draw2 Qo e mixed [.N,.N,.N,.a (.any (.sl 3 (((f.Places.drop 0).take (g.toNat-0)).map QC)) none) none false,.N,.a (.any (.b l) none) none false,.N,.m .s] [] [] [3] [616,617,618,619] rfl rfl rfl ⟨⟨tt_,(fun σ j o _=>Stp.sliceD rfl rfl (QR e.n rfl) (j _ _ rfl) (Qo.es rfl) Bnd.no (Bnd.val (j _ _ rfl) (Qap (Qpc c)) rfl) (Qap (Qpd c)) (QbM (Qap (Qrt c)) (Nat.le_of_eq Qf.symm)) QsA)⟩,(fun σ j o _=>Stp.callSame (md:=.cm (.fn) [(616,619)] [(619,616)] [] [.d,.d] [(616,.var (QC i))] (.b l) [619]) Qo e j o rfl ⟨⟨tt_,(Qg4 _ _ k)⟩,r1_⟩)⟩ rfl (by kernel_rfl) rfl rfl rfl ?_
 refine tg_ e [2] ?_
 cases h
 exact d1_ r4_
def QcN (b:(List QD))(a:Int):Option Bool:=
 some ((decide (0<=a))&&(decide (a<(b.length:Int))))
theorem QhT (d c){r}(h:QcN d c=some r):Qc prog 101 [.sl 7 (d.map Qq),.I c] [] (Gives (.b r) []):=by
 refine wk_ 13 func101 fun C e=>?_
 refine tg_ e [6] ?_
 refine AK.meetX (fun σ=>σ=⟨[(4,.b ((decide (0<=c))&&(decide (c<(d.length:Int)))))],[]⟩) ?_ ?_
 ·refine tg_ e [4] ?_
  rcases QE (decide (0<=c))with a | a
  ·refine Qa e [.S 7 (.b true),2,.o (.ln d.length),4,.S 4 (.b ((decide (0<=c))&&(decide (c<(d.length:Int))))),.K [4] []] rfl ⟨⟨(tc_ a),Qf⟩,(congrArg V.b (Qaq a rfl))⟩ ?_
   exact mt_
  refine Qa e [.S 7 (.b false),7,.S 4 (.b ((decide (0<=c))&&(decide (c<(d.length:Int))))),.K [4] []] rfl ⟨(tc_ a),(congrArg V.b (Qa4 a rfl))⟩ ?_
  exact mt_
 rintro σ rfl
 refine tg_ e [2] ?_
 cases h
 exact d1_ tt_
def Qjo (a:Qn)(b:Q4):Option Bool:=
 (QcN a.Colours b.Colour).bind fun c=>
 some c
theorem Qua (a e){r}(h:Qjo a e=some r):Qc prog 100 [.L 616,.L 617] [(616,.var (Qd a)),(617,.var (QC e))] (Gives (.b r) [(616,.var (Qd a)),(617,.var (QC e))]):=by
 refine wk_ 8 func100 fun C g=>?_
 obtain⟨i,f,h⟩:=Qb h
 refine Qa g [11,.o (.C2 (.b i)),4] rfl (a1_ (QhT _ _ f)) ?_
 cases h
 exact d1_ r2_
def Qjp (a:Q4):Option Bool:=
 (QfJ a.First).bind fun b=>
 some b
theorem Qub (a){r}(h:Qjp a=some r):Qc prog 102 [.L 616] [(616,.var (QC a))] (Gives (.b r) [(616,.var (QC a))]):=by
 refine wk_ 5 func102 fun C f=>?_
 obtain⟨g,e,h⟩:=Qb h
 refine Qa f [9,.o (.C1 (.b g)),4] rfl (a1_ (Qm4 _ e)) ?_
 cases h
 exact d1_ r1_
def Qhg (a:(Int×Int))(b:Int):Option Bool:=
 some (decide (b<=a.1))
theorem QsM (a c){r}(h:Qhg a c=some r):Qc prog 105 [.agg (Qp a),.L 616] [(616,.var (Qe c))] (Gives (.b r) [(616,.var (Qe c))]):=by
 refine wk_ 8 func105 fun C d=>?_
 refine tg_ d [16] ?_
 cases h
 exact d1_ r1_
def QbF (c:QBg)(d:Int)(a:Int):Option (Int⊕(Int⊕Unit)):=
 bif (decide (a<(c.length:Int)))then
 (idx c a).bind fun e=>
 (Qhg e d).bind fun b=>
 bif b then
 some (.inr (.inl a))
 else
 some (.inl (w64 (a+1)))
 else
 some (.inr (.inr ()))
def QbG (a:Int):Option Int:=
 some a
def QbH : Option Int:=
 some (-1)
def Qb8 (a:QBg)(b:Int):Option Int:=
 (Qz (fun st=>QbF a b st) 0).bind (Sum.elim (fun q=>QbG q) (fun q=>QbH))
theorem Qkx (i c){r}(h:Qb8 i c=some r):Qc prog 148 [.sl 2 (i.map Qp),.clo (.func 105) [] [.L 616]] [(616,.var (Qe c))] (Gives (.I r) [(616,.var (Qe c))]):=by
 refine wk_ 19 func148 fun C f=>?_
 refine Qa f [9,.o (.ln i.length),4,.K [0,1,7,8] [616]] rfl (a1_ Qf) ?_
 obtain⟨l,j,h⟩:=Qb h
 refine AK.loop (body:=(fun st=>QbF i c st)) (fun st σ=>σ=⟨[(0,.sl 2 (i.map Qp)),(1,.clo (.func 105) [] [.L 616]),(7,.I (i.length:Int)),(8,.I st)],[(616,.var (Qe c))]⟩) (Sum.elim (fun q e σ=>e=.ret/\σ=⟨[(4,.I q)],[(616,.var (Qe c))]⟩) (fun q e σ=>e=.exit 0/\σ=⟨[],[(616,.var (Qe c))]⟩)) j rfl ?_ ?_
 ·rintro u o σ rfl h
  refine tg_ f [6] ?_
  rcases Qm h with⟨g,h⟩|⟨g,h⟩
  ·obtain⟨s,m,h⟩:=Qb h
   obtain⟨p,k,h⟩:=Qb h
   refine Qa f [.T,15,.o (.row (Qp s)),.A (Qp s),.cm (.clo) [(616,616)] [(616,616)] [] [.d,.d] [(616,.var (Qe c))] (.b p),2] rfl (a4_ g (QJ m) rfl (QsM _ _ k)) ?_
   refine bq_ f h [.T,9,.K [4] [616]] rfl (fun a h=>?_) [.F,7,.K [0,1,7,8] [616]] rfl fun a h=>?_
   ·cases h
    exact Qah rfl (an_ rfl rfl)
   cases h
   exact QY rfl rfl
  refine Qa f [.F,2,.K [] [616]] rfl (a1_ g) ?_
  cases h
  exact QZ rfl (an_ rfl rfl)
 rcases l with(t | _)
 ·replace h:QbG t=some r:=h
  rintro e σ ⟨rfl,rfl⟩
  refine tg_ f [2] ?_
  cases h
  exact d1_ r1_
 replace h:QbH=some r:=h
 rintro e σ ⟨rfl,rfl⟩
 refine tg_ f [8] ?_
 cases h
 exact d1_ r1_
def QbI (a:QBg)(b:Int):Option Bool:=
 (Qb8 a b).bind fun c=>
 some (decide (0<=c))
theorem QiS (e a){r}(h:QbI e a=some r):Qc prog 104 [.sl 2 (e.map Qp),.clo (.func 105) [] [.L 616]] [(616,.var (Qe a))] (Gives (.b r) [(616,.var (Qe a))]):=by
 refine wk_ 9 func104 fun C f=>?_
 obtain⟨g,c,h⟩:=Qb h
 refine Qa f [9,.cm (.fn) [(616,616)] [(616,616)] [] [.d,.d] [(616,.var (Qe a))] (.I g),5] rfl (a1_ (Qkx _ _ c)) ?_
 cases h
 exact d1_ r1_
def Qjq (b:Qn)(a:Q4):Option Bool:=
 (QaJ b.Colours a.Colour).bind fun c=>
 (QbI a.First c).bind fun d=>
 some (!d)
theorem Quc (a e){r}(h:Qjq a e=some r):Qc prog 103 [.L 616,.L 617] [(616,.var (Qd a)),(617,.var (QC e))] (Gives (.b r) [(616,.var (Qd a)),(617,.var (QC e))]):=by
 refine wk_ 14 func103 fun C j=>?_
 obtain⟨f,g,h⟩:=Qb h
 obtain⟨k,i,h⟩:=Qb h
 refine Qa j [11,.o (.C2 (.I f)),2,.O 3 (.var (Qe f)),7,.cm (.fn) [(616,3)] [(3,616)] [] [.d,.d] [(616,.var (Qe f))] (.b k),5] rfl (a3_ (Qh3 _ _ g) rfl (QiS _ _ i)) ?_
 cases h
 exact d1_ r2_
def Qh6 (a:Q4)(h:Int)(b:Qn)(i:Int)(j:Int)(k:Int)(l:Int)(m:Int):Option Int:=
 (Qjl a).bind fun c=>
 bif (!c)then
 some h
 else
 (Qjn b i a).bind fun d=>
 bif (!d)then
 some j
 else
 (Qjo b a).bind fun e=>
 bif (!e)then
 some k
 else
 (Qjp a).bind fun f=>
 bif (!f)then
 some l
 else
 (Qjq b a).bind fun g=>
 bif (!g)then
 some m
 else
 some 0
theorem Qtm (l w m x y z A B){r}(h:Qh6 l w m x y z A B=some r):Qc prog 47 [.own 616 5] [(616,.var [.clo (.func 97) [] [.L 617],.I w,.clo (.func 98) [] [.L 618,.L 619,.L 620],.I y,.clo (.func 100) [] [.L 618,.L 617],.I z,.clo (.func 102) [] [.L 617],.I A,.clo (.func 103) [] [.L 618,.L 617],.I B]),(617,.var (QC l)),(618,.var (Qd m)),(619,.var (Qe x)),(620,.var [.clo (.func 96) [] [.L 617]])] (Gives (.I r) [(616,.var [.clo (.func 97) [] [.L 617],.I w,.clo (.func 98) [] [.L 618,.L 619,.L 620],.I y,.clo (.func 100) [] [.L 618,.L 617],.I z,.clo (.func 102) [] [.L 617],.I A,.clo (.func 103) [] [.L 618,.L 617],.I B]),(617,.var (QC l)),(618,.var (Qd m)),(619,.var (Qe x)),(620,.var [.clo (.func 96) [] [.L 617]])]):=by
 refine wk_ 18 func47 fun C a=>?_
 refine tg_ a [14] ?_
 refine AK.loopN 6 (AK.rnd ?_)
 obtain⟨D,p,h⟩:=Qb h
 refine Qa a [2,.v .no [] (.b true),10,.o (.any (.L 616) none),3,.O 4 (.var [.clo (.func 97) [] [.L 617],.I w]),6,.cm (.clo) [(616,617)] [(617,616)] [] [.d] [(616,.var (QC l))] (.b D),3] rfl (a4_ rfl (fun σ c k _=>Stp.idxV rfl rfl (QR a.n rfl) (c _ _ rfl) (c _ _ rfl) (Qo.es rfl) (k _ _ rfl) (by decide)) rfl (Qt7 _ p)) ?_
 refine bg_ h (fun e h=>Qa a [.T,13,.K [2] [616,617,618,619,620]] rfl (a1_ e) ?_) fun e h=>Qa a [.F,4,.v .no [] (.I 1),2] rfl (a2_ e rfl) ?_
 ·cases h
  exact d1_ r5_
 refine AK.met (AK.rnd ?_)
 obtain⟨E,q,h⟩:=Qb h
 refine Qa a [2,.v .no [] (.b true),10,.o (.any (.loc 616 0 2) none),1,.kill 4,2,.O 4 (.var [.clo (.func 98) [] [.L 618,.L 619,.L 620],.I y]),6,.cm (.clo) [(616,618),(617,619),(618,620),(619,617)] [(618,616),(619,617),(620,618),(617,619)] [] [.d,.d,.d] [(616,.var (Qd m)),(617,.var (Qe x)),(618,.var [.clo (.func 96) [] [.L 619]]),(619,.var (QC l))] (.b E),3] rfl (a4_ rfl (fun σ c k _=>Stp.idxV rfl rfl (QR a.n rfl) (c _ _ rfl) (c _ _ rfl) (Qo.es rfl) (k _ _ rfl) (by decide)) rfl (Qt9 _ _ _ q)) ?_
 refine bg_ h (fun f h=>Qa a [.T,13,.K [2] [616,617,618,619,620]] rfl (a1_ f) ?_) fun f h=>Qa a [.F,4,.v .no [] (.I 2),2] rfl (a2_ f rfl) ?_
 ·cases h
  exact d1_ r5_
 refine AK.met (AK.rnd ?_)
 obtain⟨G,s,h⟩:=Qb h
 refine Qa a [2,.v .no [] (.b true),10,.o (.any (.loc 616 0 4) none),1,.kill 4,2,.O 4 (.var [.clo (.func 100) [] [.L 618,.L 617],.I z]),6,.cm (.clo) [(616,618),(617,617)] [(618,616),(617,617)] [] [.d,.d] [(616,.var (Qd m)),(617,.var (QC l))] (.b G),3] rfl (a4_ rfl (fun σ c k _=>Stp.idxV rfl rfl (QR a.n rfl) (c _ _ rfl) (c _ _ rfl) (Qo.es rfl) (k _ _ rfl) (by decide)) rfl (Qua _ _ s)) ?_
 refine bg_ h (fun g h=>Qa a [.T,13,.K [2] [616,617,618,619,620]] rfl (a1_ g) ?_) fun g h=>Qa a [.F,4,.v .no [] (.I 3),2] rfl (a2_ g rfl) ?_
 ·cases h
  exact d1_ r5_
 refine AK.met (AK.rnd ?_)
 obtain⟨H,t,h⟩:=Qb h
 refine Qa a [2,.v .no [] (.b true),10,.o (.any (.loc 616 0 6) none),1,.kill 4,2,.O 4 (.var [.clo (.func 102) [] [.L 617],.I A]),6,.cm (.clo) [(616,617)] [(617,616)] [] [.d] [(616,.var (QC l))] (.b H),3] rfl (a4_ rfl (fun σ c k _=>Stp.idxV rfl rfl (QR a.n rfl) (c _ _ rfl) (c _ _ rfl) (Qo.es rfl) (k _ _ rfl) (by decide)) rfl (Qub _ t)) ?_
 refine bg_ h (fun i h=>Qa a [.T,13,.K [2] [616,617,618,619,620]] rfl (a1_ i) ?_) fun i h=>Qa a [.F,4,.v .no [] (.I 4),2] rfl (a2_ i rfl) ?_
 ·cases h
  exact d1_ r5_
 refine AK.met (AK.rnd ?_)
 obtain⟨J,u,h⟩:=Qb h
 refine Qa a [2,.v .no [] (.b true),10,.o (.any (.loc 616 0 8) none),1,.kill 4,2,.O 4 (.var [.clo (.func 103) [] [.L 618,.L 617],.I B]),6,.cm (.clo) [(616,618),(617,617)] [(618,616),(617,617)] [] [.d,.d] [(616,.var (Qd m)),(617,.var (QC l))] (.b J),3] rfl (a4_ rfl (fun σ c k _=>Stp.idxV rfl rfl (QR a.n rfl) (c _ _ rfl) (c _ _ rfl) (Qo.es rfl) (k _ _ rfl) (by decide)) rfl (Quc _ _ u)) ?_
 refine bg_ h (fun j h=>Qa a [.T,13,.K [2] [616,617,618,619,620]] rfl (a1_ j) ?_) fun j h=>Qa a [.F,4,.v .no [] (.I 5),2] rfl (a2_ j rfl) ?_
 ·cases h
  exact d1_ r5_
 refine AK.met (AK.rnd ?_)
 refine Qa a [2,.v .no [] (.b false),15] rfl (a1_ rfl) ?_
 cases h
 exact d1_ r5_
def Qlz (a:Qn)(b:Int):Option Int:=
 (QaW a.Places b).bind fun c=>
 bif (!c)then
 some 3
 else
 (idx a.Places b).bind fun d=>
 (Qh6 d 1 a b 5 3 1 8).bind fun e=>
 some e
theorem QvT (g i){r}(h:Qlz g i=some r):Qc prog 55 [.agg (Qd g),.I i] [] (Gives (.I r) []):=by
 refine wk_ 30 func55 fun C e=>?_
 obtain⟨m,j,h⟩:=Qb h
 refine Qa e [13,.o (.C2 (.b m)),3] rfl (a1_ (Qcd _ _ j)) ?_
 rcases Qm h with⟨a,h⟩|⟨a,h⟩
 ·refine Qa e [.T,7] rfl (a1_ a) ?_
  cases h
  exact d1_ tt_
 obtain⟨f,k,h⟩:=Qb h
 obtain⟨p,l,h⟩:=Qb h
 refine Qa e [.F,7,.o (.row (QC f)),.A (QC f),2,.O 5 (.var (QC f)),7,.O 6 (.var [.clo (.func 96) [] [.L 5]]),5,.A [.clo (.func 97) [] [.L 5],.I 1],1,.A [.clo (.func 98) [] [.L 2,.L 3,.L 6],.I 5],1,.A [.clo (.func 100) [] [.L 2,.L 5],.I 3],1,.A [.clo (.func 102) [] [.L 5],.I 1],1,.A [.clo (.func 103) [] [.L 2,.L 5],.I 8],.o (.any (.own 28 5) (some (.var [.clo (.func 97) [] [.L 5],.I 1,.clo (.func 98) [] [.L 2,.L 3,.L 6],.I 5,.clo (.func 100) [] [.L 2,.L 5],.I 3,.clo (.func 102) [] [.L 5],.I 1,.clo (.func 103) [] [.L 2,.L 5],.I 8]))),.cm (.fn) [(616,28),(617,5),(618,2),(619,3),(620,6)] [(28,616),(5,617),(2,618),(3,619),(6,620)] [] [.d] [(616,.var [.clo (.func 97) [] [.L 617],.I 1,.clo (.func 98) [] [.L 618,.L 619,.L 620],.I 5,.clo (.func 100) [] [.L 618,.L 617],.I 3,.clo (.func 102) [] [.L 617],.I 1,.clo (.func 103) [] [.L 618,.L 617],.I 8]),(617,.var (QC f)),(618,.var (Qd g)),(619,.var (Qe i)),(620,.var [.clo (.func 96) [] [.L 617]])] (.I p),4] rfl (aC_ a (QJ k) rfl rfl rfl rfl rfl rfl rfl rfl (fun σ q s hf=>Stp.buildAny rfl rfl (QR e.n rfl) (Qo.es rfl) QnD rfl (by decide) (by decide) (QfV q rfl) rfl rfl (hf rfl)) (Qtm _ _ _ _ _ _ _ _ l)) ?_
 cases h
 exact d1_ tt_
def QlA (a:Int)(d:Q4)(b:Qn):Option Int:=
 (Qlz b a).bind fun c=>
 some c
theorem QvU (e f a){r}(h:QlA e f a=some r):Qc prog 54 [.I e,.agg (QC f),.L 616] [(616,.var (Qd a))] (Gives (.I r) [(616,.var (Qd a))]):=by
 refine wk_ 9 func54 fun C g=>?_
 obtain⟨i,b,h⟩:=Qb h
 refine Qa g [8,.A (Qd a),1,.o (.C2 (.I i)),4] rfl (a2_ rfl (QvT _ _ b)) ?_
 cases h
 exact d1_ r1_
def QdN (d:(List Q4))(e:Qn)(a:Int):Option (Int⊕((Int×Int)⊕Unit)):=
 bif (decide (a<(d.length:Int)))then
 (idx d a).bind fun c=>
 (QlA a c e).bind fun b=>
 bif (b != 0)then
 some (.inr (.inl (a,b)))
 else
 some (.inl (w64 (a+1)))
 else
 some (.inr (.inr ()))
def QdO (b:Int)(a:Int):Option (Int×Int):=
 some (b,a)
def QdP : Option (Int×Int):=
 some (0,0)
def QeU (a:(List Q4))(b:Qn):Option (Int×Int):=
 (Qz (fun st=>QdN a b st) 0).bind (Sum.elim (fun q=>QdO q.1 q.2) (fun q=>QdP))
theorem QoR (i f){r}(h:QeU i f=some r):Qc prog 53 [.sl 3 (i.map QC),.clo (.func 54) [] [.L 616]] [(616,.var (Qd f))] (Gives (.tup [.I r.1,.I r.2]) [(616,.var (Qd f))]):=by
 refine wk_ 25 func53 fun C g=>?_
 refine Qa g [10,.o (.ln i.length),4,.K [1,9,10,11] [616]] rfl (a1_ Qf) ?_
 obtain⟨m,j,h⟩:=Qb h
 refine AK.loop (body:=(fun st=>QdN i f st)) (fun st σ=>σ=⟨[(1,.clo (.func 54) [] [.L 616]),(9,.sl 3 (i.map QC)),(10,.I (i.length:Int)),(11,.I st)],[(616,.var (Qd f))]⟩) (Sum.elim (fun q e σ=>e=.ret/\σ=⟨[(4,.I q.1),(5,.I q.2)],[(616,.var (Qd f))]⟩) (fun q e σ=>e=.exit 0/\σ=⟨[],[(616,.var (Qd f))]⟩)) j rfl ?_ ?_
 ·rintro u o σ rfl h
  refine tg_ g [6] ?_
  rcases Qm h with⟨a,h⟩|⟨a,h⟩
  ·obtain⟨c,k,h⟩:=Qb h
   obtain⟨p,l,h⟩:=Qb h
   refine Qa g [.T,7,.o (.row (QC c)),.A (QC c),3,.O 7 (.var (QC c)),6,.A (QC c),.cm (.clo) [(616,616)] [(616,616)] [] [.d,.d,.d] [(616,.var (Qd f))] (.I p),9] rfl (a6_ a (QJ k) rfl rfl rfl (QvU _ _ _ l)) ?_
   refine bq_ g h [.T,11,.K [4,5] [616]] rfl (fun b h=>?_) [.F,7,.K [1,9,10,11] [616]] rfl fun b h=>?_
   ·cases h
    exact Qah rfl (an_ rfl rfl)
   cases h
   exact QY rfl rfl
  refine Qa g [.F,2,.K [] [616]] rfl (a1_ a) ?_
  cases h
  exact QZ rfl (an_ rfl rfl)
 rcases m with(⟨t,s⟩|_)
 ·replace h:QdO t s=some r:=h
  rintro e σ ⟨rfl,rfl⟩
  refine tg_ g [2] ?_
  cases h
  exact d2_ r1_
 replace h:QdP=some r:=h
 rintro e σ ⟨rfl,rfl⟩
 refine tg_ g [9] ?_
 cases h
 exact d2_ r1_
def Qbw (b:(List QF))(a:Int):Option Bool:=
 some ((decide (0<=a))&&(decide (a<(b.length:Int))))
theorem Qjr (d c){r}(h:Qbw d c=some r):Qc prog 61 [.sl 14 (d.map Qj),.I c] [] (Gives (.b r) []):=by
 refine wk_ 13 func61 fun C e=>?_
 refine tg_ e [6] ?_
 refine AK.meetX (fun σ=>σ=⟨[(4,.b ((decide (0<=c))&&(decide (c<(d.length:Int)))))],[]⟩) ?_ ?_
 ·refine tg_ e [4] ?_
  rcases QE (decide (0<=c))with a | a
  ·refine Qa e [.S 7 (.b true),2,.o (.ln d.length),4,.S 4 (.b ((decide (0<=c))&&(decide (c<(d.length:Int))))),.K [4] []] rfl ⟨⟨(tc_ a),Qf⟩,(congrArg V.b (Qaq a rfl))⟩ ?_
   exact mt_
  refine Qa e [.S 7 (.b false),7,.S 4 (.b ((decide (0<=c))&&(decide (c<(d.length:Int))))),.K [4] []] rfl ⟨(tc_ a),(congrArg V.b (Qa4 a rfl))⟩ ?_
  exact mt_
 rintro σ rfl
 refine tg_ e [2] ?_
 cases h
 exact d1_ tt_
def QlB (a:Int)(b:Qn)(c:QF):Option Unit:=
 some ()
theorem QvV (a b c){r}(h:QlB a b c=some r):Qc prog 111 [.L 616,.clo (.func 112) [] [.L 617,.L 618]] [(616,.var (Qe a)),(617,.var (Qd b)),(618,.var (Qj c))] (Gives (.clo (.func 150) [] [.L 3,.L 2]) [(2,.var [.L 616]),(3,.var [.clo (.func 112) [] [.L 617,.L 618]]),(616,.var (Qe a)),(617,.var (Qd b)),(618,.var (Qj c))]):=by
 refine wk_ 6 func111 fun C d=>?_
 refine tg_ d [14] ?_
 cases h
 exact d1_ r5_
def Qh7 (a:Int)(b:Qn)(c:QF)(d:Int):Option Unit:=
 some ()
theorem Qtn (a b c d){r}(h:Qh7 a b c d=some r):Qc prog 111 [.L 616,.clo (.func 117) [] [.L 617,.L 618,.L 619]] [(616,.var (Qe a)),(617,.var (Qd b)),(618,.var (Qj c)),(619,.var (Qe d))] (Gives (.clo (.func 150) [] [.L 3,.L 2]) [(2,.var [.L 616]),(3,.var [.clo (.func 117) [] [.L 617,.L 618,.L 619]]),(616,.var (Qe a)),(617,.var (Qd b)),(618,.var (Qj c)),(619,.var (Qe d))]):=by
 refine wk_ 6 func111 fun C e=>?_
 refine tg_ e [14] ?_
 cases h
 exact d1_ r6_
def Qh8 (a:Int)(b:Qn)(c:QF)(d:Int):Option Unit:=
 some ()
theorem Qto (a b c d){r}(h:Qh8 a b c d=some r):Qc prog 111 [.L 616,.clo (.func 119) [] [.L 617,.L 618,.L 619]] [(616,.var (Qe a)),(617,.var (Qd b)),(618,.var (Qj c)),(619,.var (Qe d))] (Gives (.clo (.func 150) [] [.L 3,.L 2]) [(2,.var [.L 616]),(3,.var [.clo (.func 119) [] [.L 617,.L 618,.L 619]]),(616,.var (Qe a)),(617,.var (Qd b)),(618,.var (Qj c)),(619,.var (Qe d))]):=by
 refine wk_ 6 func111 fun C e=>?_
 refine tg_ e [14] ?_
 cases h
 exact d1_ r6_
def Qh9 (a:Int)(b:Qn)(c:QF):Option Unit:=
 some ()
theorem Qtp (a b c){r}(h:Qh9 a b c=some r):Qc prog 111 [.L 616,.clo (.func 120) [] [.L 617,.L 618]] [(616,.var (Qe a)),(617,.var (Qd b)),(618,.var (Qj c))] (Gives (.clo (.func 150) [] [.L 3,.L 2]) [(2,.var [.L 616]),(3,.var [.clo (.func 120) [] [.L 617,.L 618]]),(616,.var (Qe a)),(617,.var (Qd b)),(618,.var (Qj c))]):=by
 refine wk_ 6 func111 fun C d=>?_
 refine tg_ d [14] ?_
 cases h
 exact d1_ r5_
def Qky (a:QF):Option Bool:=
 (Qe1 a.Name).bind fun b=>
 some b
theorem Qu0 (a){r}(h:Qky a=some r):Qc prog 107 [.L 616] [(616,.var (Qj a))] (Gives (.b r) [(616,.var (Qj a))]):=by
 refine wk_ 5 func107 fun C f=>?_
 obtain⟨g,e,h⟩:=Qb h
 refine Qa f [9,.o (.C1 (.b g)),4] rfl (a1_ (QgH _ e)) ?_
 cases h
 exact d1_ r1_
def Qkz (a:QF)(b:QF):Option Bool:=
 some (QbW a.Name b.Name)
theorem Qu1 (c a){r}(h:Qkz c a=some r):Qc prog 106 [.agg (Qj c),.L 616] [(616,.var (Qj a))] (Gives (.b r) [(616,.var (Qj a))]):=by
 refine wk_ 9 func106 fun C d=>?_
 refine tg_ d [17] ?_
 cases h
 exact d1_ r1_
def Qa6 (c:(List QF))(d:QF)(a:Int):Option (Int⊕(Int⊕Unit)):=
 bif (decide (a<(c.length:Int)))then
 (idx c a).bind fun e=>
 (Qkz e d).bind fun b=>
 bif b then
 some (.inr (.inl a))
 else
 some (.inl (w64 (a+1)))
 else
 some (.inr (.inr ()))
def Qa7 (a:Int):Option Int:=
 some a
def Qa8 : Option Int:=
 some (-1)
def Qbu (a:(List QF))(b:QF):Option Int:=
 (Qz (fun st=>Qa6 a b st) 0).bind (Sum.elim (fun q=>Qa7 q) (fun q=>Qa8))
theorem Qiy (i c){r}(h:Qbu i c=some r):Qc prog 149 [.sl 14 (i.map Qj),.clo (.func 106) [] [.L 616]] [(616,.var (Qj c))] (Gives (.I r) [(616,.var (Qj c))]):=by
 refine wk_ 19 func149 fun C f=>?_
 refine Qa f [9,.o (.ln i.length),4,.K [0,1,7,8] [616]] rfl (a1_ Qf) ?_
 obtain⟨l,j,h⟩:=Qb h
 refine AK.loop (body:=(fun st=>Qa6 i c st)) (fun st σ=>σ=⟨[(0,.sl 14 (i.map Qj)),(1,.clo (.func 106) [] [.L 616]),(7,.I (i.length:Int)),(8,.I st)],[(616,.var (Qj c))]⟩) (Sum.elim (fun q e σ=>e=.ret/\σ=⟨[(4,.I q)],[(616,.var (Qj c))]⟩) (fun q e σ=>e=.exit 0/\σ=⟨[],[(616,.var (Qj c))]⟩)) j rfl ?_ ?_
 ·rintro u o σ rfl h
  refine tg_ f [6] ?_
  rcases Qm h with⟨g,h⟩|⟨g,h⟩
  ·obtain⟨s,m,h⟩:=Qb h
   obtain⟨p,k,h⟩:=Qb h
   refine Qa f [.T,15,.o (.row (Qj s)),.A (Qj s),.cm (.clo) [(616,616)] [(616,616)] [] [.d,.d] [(616,.var (Qj c))] (.b p),2] rfl (a4_ g (QJ m) rfl (Qu1 _ _ k)) ?_
   refine bq_ f h [.T,9,.K [4] [616]] rfl (fun a h=>?_) [.F,7,.K [0,1,7,8] [616]] rfl fun a h=>?_
   ·cases h
    exact Qah rfl (an_ rfl rfl)
   cases h
   exact QY rfl rfl
  refine Qa f [.F,2,.K [] [616]] rfl (a1_ g) ?_
  cases h
  exact QZ rfl (an_ rfl rfl)
 rcases l with(t | _)
 ·replace h:Qa7 t=some r:=h
  rintro e σ ⟨rfl,rfl⟩
  refine tg_ f [2] ?_
  cases h
  exact d1_ r1_
 replace h:Qa8=some r:=h
 rintro e σ ⟨rfl,rfl⟩
 refine tg_ f [8] ?_
 cases h
 exact d1_ r1_
def Qa9 (a:(List QF))(b:QF):Option Bool:=
 (Qbu a b).bind fun c=>
 some (decide (0<=c))
theorem QhB (e a){r}(h:Qa9 e a=some r):Qc prog 109 [.sl 14 (e.map Qj),.clo (.func 106) [] [.L 616]] [(616,.var (Qj a))] (Gives (.b r) [(616,.var (Qj a))]):=by
 refine wk_ 9 func109 fun C f=>?_
 obtain⟨g,c,h⟩:=Qb h
 refine Qa f [9,.cm (.fn) [(616,616)] [(616,616)] [] [.d,.d] [(616,.var (Qj a))] (.I g),5] rfl (a1_ (Qiy _ _ c)) ?_
 cases h
 exact d1_ r1_
def QkA (b:Qn)(a:Int)(c:QF):Option Bool:=
 (chk (decide (0<=a)&&decide (0<=a.toNat)&&decide (a.toNat<=b.Tasks.length))).bind fun _=>
 (Qa9 ((b.Tasks.drop 0).take (a.toNat-0)) c).bind fun d=>
 some (!d)
theorem Qu2 (f g i){r}(h:QkA f g i=some r):Qc prog 108 [.L 616,.L 617,.L 618] [(616,.var (Qd f)),(617,.var (Qe g)),(618,.var [.clo (.func 106) [] [.L 619]]),(619,.var (Qj i))] (Gives (.b r) [(616,.var (Qd f)),(617,.var (Qe g)),(618,.var [.clo (.func 106) [] [.L 619]]),(619,.var (Qj i))]):=by
 refine wk_ 11 func108 fun C e=>?_
 obtain⟨c,h⟩:=QaV h
 obtain⟨l,k,h⟩:=Qb h
 refine tg_ e [6,.K [0,1,2,3] [616,617,618,619]] ?_
 refine AK.draw2 Qo e mixed [.N,.N,.N,.a (.any (.sl 14 (((f.Tasks.drop 0).take (g.toNat-0)).map Qj)) none) none false,.N,.a (.any (.b l) none) none false,.N,.m .s] [] [] [3] [616,617,618,619] rfl rfl rfl ⟨⟨tt_,(fun σ j o _=>Stp.sliceD rfl rfl (QR e.n rfl) (j _ _ rfl) (Qo.es rfl) Bnd.no (Bnd.val (j _ _ rfl) (Qap (Qpc c)) rfl) (Qap (Qpd c)) (QbM (Qap (Qrt c)) (Nat.le_of_eq Qf.symm)) QsA)⟩,(fun σ j o _=>Stp.callSame (md:=.cm (.fn) [(616,619)] [(619,616)] [] [.d,.d] [(616,.var (Qj i))] (.b l) [619]) Qo e j o rfl ⟨⟨tt_,(QhB _ _ k)⟩,r1_⟩)⟩ rfl (by kernel_rfl) rfl rfl rfl ?_
 refine tg_ e [2] ?_
 cases h
 exact d1_ r4_
def QhC (b:Int)(a:QF):Option Bool:=
 some ((decide (b<=16))&&(decide ((max2 (max2 (a.Ins.length:Int) (a.Outs.length:Int)) (a.Cancel.length:Int))<=16)))
theorem Qu3 (d a){r}(h:QhC d a=some r):Qc prog 110 [.L 616,.L 617] [(616,.var (Qe d)),(617,.var (Qj a))] (Gives (.b r) [(616,.var (Qe d)),(617,.var (Qj a))]):=by
 refine wk_ 18 func110 fun C e=>?_
 refine tg_ e [6] ?_
 refine AK.meetX (fun σ=>σ=⟨[(2,.b ((decide (d<=16))&&(decide ((max2 (max2 (a.Ins.length:Int) (a.Outs.length:Int)) (a.Cancel.length:Int))<=16))))],[(616,.var (Qe d)),(617,.var (Qj a))]⟩) ?_ ?_
 ·refine tg_ e [4] ?_
  rcases QE (decide (d<=16))with c | c
  ·refine Qa e [.S 5 (.b true),2,.o (.ln a.Ins.length),2,.o (.ln a.Outs.length),2,.o (.ln a.Cancel.length),.o (.any (.I (max2 (max2 (a.Ins.length:Int) (a.Outs.length:Int)) (a.Cancel.length:Int))) none),4,.S 2 (.b ((decide (d<=16))&&(decide ((max2 (max2 (a.Ins.length:Int) (a.Outs.length:Int)) (a.Cancel.length:Int))<=16)))),.K [2] [616,617]] rfl ⟨⟨⟨⟨⟨(tc_ c),Qf⟩,Qf⟩,Qf⟩,(fun σ f g _=>Stp.max3 rfl rfl (QR e.n rfl) (f _ _ rfl) (f _ _ rfl) (f _ _ rfl))⟩,(congrArg V.b (Qaq c rfl))⟩ ?_
   exact mt_
  refine Qa e [.S 5 (.b false),14,.S 2 (.b ((decide (d<=16))&&(decide ((max2 (max2 (a.Ins.length:Int) (a.Outs.length:Int)) (a.Cancel.length:Int))<=16)))),.K [2] [616,617]] rfl ⟨(tc_ c),(congrArg V.b (Qa4 c rfl))⟩ ?_
  exact mt_
 rintro σ rfl
 refine tg_ e [2] ?_
 cases h
 exact d1_ r2_
def Qe8 (a:Qaw):Option Bool:=
 (Qe1 a.Name).bind fun b=>
 some b
theorem Qpt (a){r}(h:Qe8 a=some r):Qc prog 154 [.L 616] [(616,.var (QO a))] (Gives (.b r) [(616,.var (QO a))]):=by
 refine wk_ 5 func154 fun C f=>?_
 obtain⟨g,e,h⟩:=Qb h
 refine Qa f [9,.o (.C1 (.b g)),4] rfl (a1_ (QgH _ e)) ?_
 cases h
 exact d1_ r1_
def Qe9 (a:Qaw)(b:Qaw):Option Bool:=
 some (QbW a.Name b.Name)
theorem Qpu (c a){r}(h:Qe9 c a=some r):Qc prog 153 [.agg (QO c),.L 616] [(616,.var (QO a))] (Gives (.b r) [(616,.var (QO a))]):=by
 refine wk_ 9 func153 fun C d=>?_
 refine tg_ d [17] ?_
 cases h
 exact d1_ r1_
def Qbk (c:(List Qaw))(d:Qaw)(a:Int):Option (Int⊕(Int⊕Unit)):=
 bif (decide (a<(c.length:Int)))then
 (idx c a).bind fun e=>
 (Qe9 e d).bind fun b=>
 bif b then
 some (.inr (.inl a))
 else
 some (.inl (w64 (a+1)))
 else
 some (.inr (.inr ()))
def Qbl (a:Int):Option Int:=
 some a
def Qbm : Option Int:=
 some (-1)
def QbQ (a:(List Qaw))(b:Qaw):Option Int:=
 (Qz (fun st=>Qbk a b st) 0).bind (Sum.elim (fun q=>Qbl q) (fun q=>Qbm))
theorem QjH (i c){r}(h:QbQ i c=some r):Qc prog 197 [.sl 2 (i.map QO),.clo (.func 153) [] [.L 616]] [(616,.var (QO c))] (Gives (.I r) [(616,.var (QO c))]):=by
 refine wk_ 19 func197 fun C f=>?_
 refine Qa f [9,.o (.ln i.length),4,.K [0,1,7,8] [616]] rfl (a1_ Qf) ?_
 obtain⟨l,j,h⟩:=Qb h
 refine AK.loop (body:=(fun st=>Qbk i c st)) (fun st σ=>σ=⟨[(0,.sl 2 (i.map QO)),(1,.clo (.func 153) [] [.L 616]),(7,.I (i.length:Int)),(8,.I st)],[(616,.var (QO c))]⟩) (Sum.elim (fun q e σ=>e=.ret/\σ=⟨[(4,.I q)],[(616,.var (QO c))]⟩) (fun q e σ=>e=.exit 0/\σ=⟨[],[(616,.var (QO c))]⟩)) j rfl ?_ ?_
 ·rintro u o σ rfl h
  refine tg_ f [6] ?_
  rcases Qm h with⟨g,h⟩|⟨g,h⟩
  ·obtain⟨s,m,h⟩:=Qb h
   obtain⟨p,k,h⟩:=Qb h
   refine Qa f [.T,15,.o (.row (QO s)),.A (QO s),.cm (.clo) [(616,616)] [(616,616)] [] [.d,.d] [(616,.var (QO c))] (.b p),2] rfl (a4_ g (QJ m) rfl (Qpu _ _ k)) ?_
   refine bq_ f h [.T,9,.K [4] [616]] rfl (fun a h=>?_) [.F,7,.K [0,1,7,8] [616]] rfl fun a h=>?_
   ·cases h
    exact Qah rfl (an_ rfl rfl)
   cases h
   exact QY rfl rfl
  refine Qa f [.F,2,.K [] [616]] rfl (a1_ g) ?_
  cases h
  exact QZ rfl (an_ rfl rfl)
 rcases l with(t | _)
 ·replace h:Qbl t=some r:=h
  rintro e σ ⟨rfl,rfl⟩
  refine tg_ f [2] ?_
  cases h
  exact d1_ r1_
 replace h:Qbm=some r:=h
 rintro e σ ⟨rfl,rfl⟩
 refine tg_ f [8] ?_
 cases h
 exact d1_ r1_
def Qbn (a:(List Qaw))(b:Qaw):Option Bool:=
 (QbQ a b).bind fun c=>
 some (decide (0<=c))
theorem Qia (e a){r}(h:Qbn e a=some r):Qc prog 156 [.sl 2 (e.map QO),.clo (.func 153) [] [.L 616]] [(616,.var (QO a))] (Gives (.b r) [(616,.var (QO a))]):=by
 refine wk_ 9 func156 fun C f=>?_
 obtain⟨g,c,h⟩:=Qb h
 refine Qa f [9,.cm (.fn) [(616,616)] [(616,616)] [] [.d,.d] [(616,.var (QO a))] (.I g),5] rfl (a1_ (QjH _ _ c)) ?_
 cases h
 exact d1_ r1_
def Qfa (b:(List Qaw))(a:Int)(c:Qaw):Option Bool:=
 (chk (decide (0<=a)&&decide (0<=a.toNat)&&decide (a.toNat<=b.length))).bind fun _=>
 (Qbn ((b.drop 0).take (a.toNat-0)) c).bind fun d=>
 some (!d)
theorem Qpv (f g i){r}(h:Qfa f g i=some r):Qc prog 155 [.L 616,.L 617,.L 618] [(616,.var (Qcm f)),(617,.var (Qe g)),(618,.var [.clo (.func 153) [] [.L 619]]),(619,.var (QO i))] (Gives (.b r) [(616,.var (Qcm f)),(617,.var (Qe g)),(618,.var [.clo (.func 153) [] [.L 619]]),(619,.var (QO i))]):=by
 refine wk_ 10 func155 fun C e=>?_
 obtain⟨c,h⟩:=QaV h
 obtain⟨l,k,h⟩:=Qb h
 refine tg_ e [6,.K [0,1,2,3] [616,617,618,619]] ?_
 refine AK.draw2 Qo e mixed [.N,.N,.a (.any (.sl 2 (((f.drop 0).take (g.toNat-0)).map QO)) none) none false,.N,.a (.any (.b l) none) none false,.N,.m .s] [] [] [3] [616,617,618,619] rfl rfl rfl ⟨⟨tt_,(fun σ j o _=>Stp.sliceD rfl rfl (QR e.n rfl) (j _ _ rfl) (Qo.es rfl) Bnd.no (Bnd.val (j _ _ rfl) (Qap (Qpc c)) rfl) (Qap (Qpd c)) (QbM (Qap (Qrt c)) (Nat.le_of_eq Qf.symm)) QsA)⟩,(fun σ j o _=>Stp.callSame (md:=.cm (.fn) [(616,619)] [(619,616)] [] [.d,.d] [(616,.var (QO i))] (.b l) [619]) Qo e j o rfl ⟨⟨tt_,(Qia _ _ k)⟩,r1_⟩)⟩ rfl (by kernel_rfl) rfl rfl rfl ?_
 refine tg_ e [2] ?_
 cases h
 exact d1_ r4_
def Qfb (a:Qn)(b:Qaw):Option Bool:=
 (QcN a.Colours b.Colour).bind fun c=>
 some c
theorem Qpw (a e){r}(h:Qfb a e=some r):Qc prog 157 [.L 616,.L 617] [(616,.var (Qd a)),(617,.var (QO e))] (Gives (.b r) [(616,.var (Qd a)),(617,.var (QO e))]):=by
 refine wk_ 8 func157 fun C g=>?_
 obtain⟨i,f,h⟩:=Qb h
 refine Qa g [11,.o (.C2 (.b i)),4] rfl (a1_ (QhT _ _ f)) ?_
 cases h
 exact d1_ r2_
def Qib (a:Qaw)(e:Int)(f:(List Qaw))(g:Int)(h:Int)(i:Qn)(j:Int):Option Int:=
 (Qe8 a).bind fun b=>
 bif (!b)then
 some e
 else
 (Qfa f g a).bind fun c=>
 bif (!c)then
 some h
 else
 (Qfb i a).bind fun d=>
 bif (!d)then
 some j
 else
 some 0
theorem Qtq (i p q s t u w){r}(h:Qib i p q s t u w=some r):Qc prog 47 [.own 616 3] [(616,.var [.clo (.func 154) [] [.L 617],.I p,.clo (.func 155) [] [.L 618,.L 619,.L 620],.I t,.clo (.func 157) [] [.L 621,.L 617],.I w]),(617,.var (QO i)),(618,.var (Qcm q)),(619,.var (Qe s)),(620,.var [.clo (.func 153) [] [.L 617]]),(621,.var (Qd u))] (Gives (.I r) [(616,.var [.clo (.func 154) [] [.L 617],.I p,.clo (.func 155) [] [.L 618,.L 619,.L 620],.I t,.clo (.func 157) [] [.L 621,.L 617],.I w]),(617,.var (QO i)),(618,.var (Qcm q)),(619,.var (Qe s)),(620,.var [.clo (.func 153) [] [.L 617]]),(621,.var (Qd u))]):=by
 refine wk_ 18 func47 fun C a=>?_
 refine tg_ a [14] ?_
 refine AK.loopN 4 (AK.rnd ?_)
 obtain⟨x,j,h⟩:=Qb h
 refine Qa a [2,.v .no [] (.b true),10,.o (.any (.L 616) none),3,.O 4 (.var [.clo (.func 154) [] [.L 617],.I p]),6,.cm (.clo) [(616,617)] [(617,616)] [] [.d] [(616,.var (QO i))] (.b x),3] rfl (a4_ rfl (fun σ g k _=>Stp.idxV rfl rfl (QR a.n rfl) (g _ _ rfl) (g _ _ rfl) (Qo.es rfl) (k _ _ rfl) (by decide)) rfl (Qpt _ j)) ?_
 refine bg_ h (fun c h=>Qa a [.T,13,.K [2] [616,617,618,619,620,621]] rfl (a1_ c) ?_) fun c h=>Qa a [.F,4,.v .no [] (.I 1),2] rfl (a2_ c rfl) ?_
 ·cases h
  exact d1_ r6_
 refine AK.met (AK.rnd ?_)
 obtain⟨y,l,h⟩:=Qb h
 refine Qa a [2,.v .no [] (.b true),10,.o (.any (.loc 616 0 2) none),1,.kill 4,2,.O 4 (.var [.clo (.func 155) [] [.L 618,.L 619,.L 620],.I t]),6,.cm (.clo) [(616,618),(617,619),(618,620),(619,617)] [(618,616),(619,617),(620,618),(617,619)] [] [.d,.d,.d] [(616,.var (Qcm q)),(617,.var (Qe s)),(618,.var [.clo (.func 153) [] [.L 619]]),(619,.var (QO i))] (.b y),3] rfl (a4_ rfl (fun σ g k _=>Stp.idxV rfl rfl (QR a.n rfl) (g _ _ rfl) (g _ _ rfl) (Qo.es rfl) (k _ _ rfl) (by decide)) rfl (Qpv _ _ _ l)) ?_
 refine bg_ h (fun e h=>Qa a [.T,13,.K [2] [616,617,618,619,620,621]] rfl (a1_ e) ?_) fun e h=>Qa a [.F,4,.v .no [] (.I 2),2] rfl (a2_ e rfl) ?_
 ·cases h
  exact d1_ r6_
 refine AK.met (AK.rnd ?_)
 obtain⟨z,m,h⟩:=Qb h
 refine Qa a [2,.v .no [] (.b true),10,.o (.any (.loc 616 0 4) none),1,.kill 4,2,.O 4 (.var [.clo (.func 157) [] [.L 621,.L 617],.I w]),6,.cm (.clo) [(616,621),(617,617)] [(621,616),(617,617)] [] [.d,.d] [(616,.var (Qd u)),(617,.var (QO i))] (.b z),3] rfl (a4_ rfl (fun σ g k _=>Stp.idxV rfl rfl (QR a.n rfl) (g _ _ rfl) (g _ _ rfl) (Qo.es rfl) (k _ _ rfl) (by decide)) rfl (Qpw _ _ m)) ?_
 refine bg_ h (fun f h=>Qa a [.T,13,.K [2] [616,617,618,619,620,621]] rfl (a1_ f) ?_) fun f h=>Qa a [.F,4,.v .no [] (.I 3),2] rfl (a2_ f rfl) ?_
 ·cases h
  exact d1_ r6_
 refine AK.met (AK.rnd ?_)
 refine Qa a [2,.v .no [] (.b false),15] rfl (a1_ rfl) ?_
 cases h
 exact d1_ r6_
def Qgi (a:Int)(b:Qaw)(c:(List Qaw))(d:Qn):Option Int:=
 (Qib b 1 c a 5 d 3).bind fun e=>
 some e
theorem Qrl (c e a b){r}(h:Qgi c e a b=some r):Qc prog 152 [.I c,.agg (QO e),.L 616,.L 617] [(616,.var (Qcm a)),(617,.var (Qd b))] (Gives (.I r) [(616,.var (Qcm a)),(617,.var (Qd b))]):=by
 refine wk_ 17 func152 fun C g=>?_
 obtain⟨i,f,h⟩:=Qb h
 refine Qa g [12,.O 7 (.var [.clo (.func 153) [] [.L 5]]),5,.A [.clo (.func 154) [] [.L 5],.I 1],1,.A [.clo (.func 155) [] [.L 616,.L 4,.L 7],.I 5],1,.A [.clo (.func 157) [] [.L 617,.L 5],.I 3],.o (.any (.own 15 3) (some (.var [.clo (.func 154) [] [.L 5],.I 1,.clo (.func 155) [] [.L 616,.L 4,.L 7],.I 5,.clo (.func 157) [] [.L 617,.L 5],.I 3]))),.cm (.fn) [(616,15),(617,5),(618,616),(619,4),(620,7),(621,617)] [(15,616),(5,617),(616,618),(4,619),(7,620),(617,621)] [] [.d] [(616,.var [.clo (.func 154) [] [.L 617],.I 1,.clo (.func 155) [] [.L 618,.L 619,.L 620],.I 5,.clo (.func 157) [] [.L 621,.L 617],.I 3]),(617,.var (QO e)),(618,.var (Qcm a)),(619,.var (Qe c)),(620,.var [.clo (.func 153) [] [.L 617]]),(621,.var (Qd b))] (.I i),4] rfl (a6_ rfl rfl rfl rfl (fun σ j k hf=>Stp.buildAny rfl rfl (QR g.n rfl) (Qo.es rfl) QnD rfl (by decide) (by decide) (QfV j rfl) rfl rfl (hf rfl)) (Qtq _ _ _ _ _ _ _ f)) ?_
 cases h
 exact d1_ r2_
def Qer (d:(List Qaw))(e:(List Qaw))(f:Qn)(a:Int):Option (Int⊕((Int×Int)⊕Unit)):=
 bif (decide (a<(d.length:Int)))then
 (idx d a).bind fun c=>
 (Qgi a c e f).bind fun b=>
 bif (b != 0)then
 some (.inr (.inl (a,b)))
 else
 some (.inl (w64 (a+1)))
 else
 some (.inr (.inr ()))
def Qes (a:Int)(b:Int):Option (Int×Int):=
 some (a,b)
def Qet : Option (Int×Int):=
 some (0,0)
def QfB (a:(List Qaw))(b:(List Qaw))(c:Qn):Option (Int×Int):=
 (Qz (fun st=>Qer a b c st) 0).bind (Sum.elim (fun q=>Qes q.1 q.2) (fun q=>Qet))
theorem Qqd (j f g){r}(h:QfB j f g=some r):Qc prog 151 [.sl 2 (j.map QO),.clo (.func 152) [] [.L 616,.L 617]] [(616,.var (Qcm f)),(617,.var (Qd g))] (Gives (.tup [.I r.1,.I r.2]) [(616,.var (Qcm f)),(617,.var (Qd g))]):=by
 refine wk_ 25 func151 fun C i=>?_
 refine Qa i [10,.o (.ln j.length),4,.K [1,9,10,11] [616,617]] rfl (a1_ Qf) ?_
 obtain⟨p,k,h⟩:=Qb h
 refine AK.loop (body:=(fun st=>Qer j f g st)) (fun st σ=>σ=⟨[(1,.clo (.func 152) [] [.L 616,.L 617]),(9,.sl 2 (j.map QO)),(10,.I (j.length:Int)),(11,.I st)],[(616,.var (Qcm f)),(617,.var (Qd g))]⟩) (Sum.elim (fun q e σ=>e=.ret/\σ=⟨[(4,.I q.1),(5,.I q.2)],[(616,.var (Qcm f)),(617,.var (Qd g))]⟩) (fun q e σ=>e=.exit 0/\σ=⟨[],[(616,.var (Qcm f)),(617,.var (Qd g))]⟩)) k rfl ?_ ?_
 ·rintro w o σ rfl h
  refine tg_ i [6] ?_
  rcases Qm h with⟨a,h⟩|⟨a,h⟩
  ·obtain⟨c,l,h⟩:=Qb h
   obtain⟨s,m,h⟩:=Qb h
   refine Qa i [.T,7,.o (.row (QO c)),.A (QO c),3,.O 7 (.var (QO c)),6,.A (QO c),.cm (.clo) [(616,616),(617,617)] [(616,616),(617,617)] [] [.d,.d,.d,.d] [(616,.var (Qcm f)),(617,.var (Qd g))] (.I s),9] rfl (a6_ a (QJ l) rfl rfl rfl (Qrl _ _ _ _ m)) ?_
   refine bq_ i h [.T,11,.K [4,5] [616,617]] rfl (fun b h=>?_) [.F,7,.K [1,9,10,11] [616,617]] rfl fun b h=>?_
   ·cases h
    exact Qah rfl (an_ rfl rfl)
   cases h
   exact QY rfl rfl
  refine Qa i [.F,2,.K [] [616,617]] rfl (a1_ a) ?_
  cases h
  exact QZ rfl (an_ rfl rfl)
 rcases p with(⟨t,u⟩|_)
 ·replace h:Qes t u=some r:=h
  rintro e σ ⟨rfl,rfl⟩
  refine tg_ i [2] ?_
  cases h
  exact d2_ r2_
 replace h:Qet=some r:=h
 rintro e σ ⟨rfl,rfl⟩
 refine tg_ i [9] ?_
 cases h
 exact d2_ r2_
def Qhh (b:Qn)(a:(List Qaw)):Option Int:=
 (QfB a a b).bind fun c=>
 some c.2
theorem QsN (a b){r}(h:Qhh a b=some r):Qc prog 113 [.agg (Qd a),.sl 2 (b.map QO)] [] (Gives (.I r) []):=by
 refine wk_ 14 func113 fun C f=>?_
 obtain⟨e,c,h⟩:=Qb h
 refine Qa f [11,.cm (.fn) [(616,3),(617,2)] [(3,616),(2,617)] [] [.d,.d] [(616,.var (Qcm b)),(617,.var (Qd a))] (.tup [.I e.1,.I e.2]),14] rfl (a1_ (Qqd _ _ _ c)) ?_
 cases h
 exact d1_ tt_
def QkB (a:Qn)(b:QF):Option Int:=
 (Qhh a b.Vars).bind fun c=>
 some c
theorem Qu4 (a b){r}(h:QkB a b=some r):Qc prog 112 [.L 616,.L 617] [(616,.var (Qd a)),(617,.var (Qj b))] (Gives (.I r) [(616,.var (Qd a)),(617,.var (Qj b))]):=by
 refine wk_ 7 func112 fun C f=>?_
 obtain⟨g,e,h⟩:=Qb h
 refine Qa f [7,.A (Qd a),2,.o (.C2 (.I g)),4] rfl (a2_ rfl (QsN _ _ e)) ?_
 cases h
 exact d1_ r2_
def QgJ (b:Qn)(c:QF)(d:Int):Option (Bool×Int):=
 (QkB b c).bind fun a=>
 some ((a==0),a)
theorem Qud (c e j){r}(h:QgJ c e j=some r):Qc prog 150 [.L 616,.L 619] [(616,.var [.clo (.func 112) [] [.L 617,.L 618]]),(617,.var (Qd c)),(618,.var (Qj e)),(619,.var [.L 620]),(620,.var (Qe j))] (Gives (.b r.1) [(616,.var [.clo (.func 112) [] [.L 617,.L 618]]),(617,.var (Qd c)),(618,.var (Qj e)),(619,.var [.L 620]),(620,.var (Qe r.2))]):=by
 refine wk_ 11 func150 fun C f=>?_
 obtain⟨g,i,h⟩:=Qb h
 refine tg_ f [6,.K [0,1] [616,617,618,619,620]] ?_
 refine AK.draw2 Qo f mixed [.N,.N,.a (.any (.I g) none) none false,.N,.m .s] [] [] [1] [616,617,618,619,620] rfl rfl rfl ⟨tt_,(fun σ k l _=>Stp.callSame (md:=.cm (.clo) [(616,617),(617,618)] [(617,616),(618,617)] [] [.d,.d] [(616,.var (Qd c)),(617,.var (Qj e))] (.I g) [617,618]) Qo f k l rfl ⟨⟨tt_,(Qu4 _ _ i)⟩,r2_⟩)⟩ rfl (by kernel_rfl) rfl rfl rfl ?_
 refine Qa f [.O 620 (.var (Qe g)),11] rfl (a1_ rfl) ?_
 cases h
 exact d1_ r5_
def QeF (e:QF)(f:Qn)(a:Int)(c:Int):Option ((Int×Int)⊕(Unit⊕Int)):=
 bif (decide (c<(e.Vars.length:Int)))then
 (idx e.Vars c).bind fun d=>
 (QaJ f.Colours d.Colour).bind fun b=>
 bif (b==0)then
 some (.inr (.inl ()))
 else
 some (.inl ((min2 (w64 (a*b)) 1025),(w64 (c+1))))
 else
 some (.inr (.inr a))
def Qic : Option Int:=
 some 0
def Qid (a:Int):Option Int:=
 some a
def Qds (a:Qn)(b:Int):Option Int:=
 (Qbw a.Tasks b).bind fun c=>
 bif (!c)then
 some 0
 else
 (idx a.Tasks b).bind fun d=>
 (Qz (fun st=>QeF d a st.1 st.2) (1,0)).bind (Sum.elim (fun q=>Qic) (fun q=>Qid q))
theorem Qpx (t z){r}(h:Qds t z=some r):Qc prog 25 [.agg (Qd t),.I z] [] (Gives (.I r) []):=by
 refine wk_ 38 func25 fun C g=>?_
 obtain⟨B,u,h⟩:=Qb h
 refine Qa g [12,.o (.C2 (.b B)),3] rfl (a1_ (Qjr _ _ u)) ?_
 rcases Qm h with⟨i,h⟩|⟨i,h⟩
 ·refine Qa g [.T,7] rfl (a1_ i) ?_
  cases h
  exact d1_ tt_
 obtain⟨l,w,h⟩:=Qb h
 refine Qa g [.F,13,.o (.row (Qj l)),2,.o (.ln l.Vars.length),4,.K [2,5,19,20,21] [2]] rfl (a3_ i (QJ w) Qf) ?_
 obtain⟨x,m,h⟩:=Qb h
 refine AK.loop (body:=(fun st=>QeF l t st.1 st.2)) (fun st σ=>σ=⟨[lk_ 2,(5,.I st.1),(19,.sl 2 (l.Vars.map QO)),(20,.I (l.Vars.length:Int)),(21,.I st.2)],[(2,.var (Qd t))]⟩) (Sum.elim (fun q e σ=>e=.ret/\σ=⟨[(4,.I 0)],[]⟩) (fun q e σ=>e=.exit 0/\σ=⟨[(5,.I q)],[]⟩)) m rfl ?_ ?_
 ·rintro ⟨A,D⟩ o σ rfl h
  refine tg_ g [6] ?_
  rcases Qm h with⟨a,h⟩|⟨a,h⟩
  ·obtain⟨j,p,h⟩:=Qb h
   obtain⟨y,s,h⟩:=Qb h
   refine Qa g [.T,6,.o (.row (QO j)),.A (QO j),2,.O 7 (.var (QO j)),8,.o (.C2 (.I y)),10] rfl (a5_ a (QJ p) rfl rfl (Qh3 _ _ s)) ?_
   refine bq_ g h [.T,9,.K [4] []] rfl (fun f h=>?_) [.F,15,.K [2,5,19,20,21] [2]] rfl fun f h=>?_
   ·cases h
    exact Qah rfl (an_ rfl rfl)
   cases h
   exact QY rfl rfl
  refine Qa g [.F,2,.K [5] []] rfl (a1_ a) ?_
  cases h
  exact QZ rfl (an_ rfl rfl)
 rcases x with(_ | k)
 ·replace h:Qic=some r:=h
  rintro e σ ⟨rfl,rfl⟩
  refine tg_ g [2] ?_
  cases h
  exact d1_ tt_
 replace h:Qid k=some r:=h
 rintro e σ ⟨rfl,rfl⟩
 refine tg_ g [9] ?_
 cases h
 exact d1_ tt_
def QhD (a:Qn)(b:Int):Option Bool:=
 (Qds a b).bind fun c=>
 some (decide (c<=1024))
theorem Qu5 (a e){r}(h:QhD a e=some r):Qc prog 114 [.L 616,.L 617] [(616,.var (Qd a)),(617,.var (Qe e))] (Gives (.b r) [(616,.var (Qd a)),(617,.var (Qe e))]):=by
 refine wk_ 7 func114 fun C g=>?_
 obtain⟨i,f,h⟩:=Qb h
 refine Qa g [7,.A (Qd a),1,.o (.C2 (.I i)),5] rfl (a2_ rfl (Qpx _ _ f)) ?_
 cases h
 exact d1_ r2_
def Qoi (a:QF)(b:Int):Option Bool:=
 (QeZ a.Guard b).bind fun c=>
 bif c then
 bif (decide (0<(a.Ins.length:Int)))then
 some (decide (0<(a.Outs.length:Int)))
 else
 some false
 else
 some false
def Qhi (a:Bool):Option Bool:=
 some a
def QkC (a:QF)(b:Int):Option Bool:=
 (Qoi a b).bind (fun c=>Qhi c)
theorem Qu6 (a i){r}(h:QkC a i=some r):Qc prog 115 [.L 616,.L 617] [(616,.var (Qj a)),(617,.var (Qe i))] (Gives (.b r) [(616,.var (Qj a)),(617,.var (Qe i))]):=by
 refine wk_ 19 func115 fun C e=>?_
 refine tg_ e [6] ?_
 obtain⟨j,k,h⟩:=Qb h
 replace h:Qhi j=some r:=h
 refine AK.meetX (fun σ=>σ=⟨[(2,.b j)],[(616,.var (Qj a)),(617,.var (Qe i))]⟩) ?_ ?_
 ·replace h:=k
  obtain⟨m,l,h⟩:=Qb h
  refine Qa e [2,.A (Qk a.Guard),1,.o (.C2 (.b m)),1] rfl (a2_ rfl (Qmt _ _ l)) ?_
  refine bg_ h (fun f h=>Qa e [.S 7 (.b true),2,.o (.ln a.Ins.length),3] rfl ⟨(tc_ f),Qf⟩ ?_) fun f h=>Qa e [.S 7 (.b false),13,.K [2] [616,617]] rfl (tc_ f) ?_
  ·refine bg_ h (fun g h=>Qa e [.S 13 (.b true),2,.o (.ln a.Outs.length),4,.K [2] [616,617]] rfl ⟨(tc_ g),Qf⟩ ?_) fun g h=>Qa e [.S 13 (.b false),7,.K [2] [616,617]] rfl (tc_ g) ?_
   ·cases h
    exact mt_
   cases h
   exact mt_
  cases h
  exact mt_
 rintro σ rfl
 replace h:Qhi j=some r:=h
 refine tg_ e [2] ?_
 cases h
 exact d1_ r2_
def Qie (a:Qn)(b:Qat):Option Bool:=
 (QaW a.Places b.Place).bind fun c=>
 some c
theorem Qtr (a e){r}(h:Qie a e=some r):Qc prog 163 [.L 616,.L 617] [(616,.var (Qd a)),(617,.var (Q2 e))] (Gives (.b r) [(616,.var (Qd a)),(617,.var (Q2 e))]):=by
 refine wk_ 8 func163 fun C g=>?_
 obtain⟨i,f,h⟩:=Qb h
 refine Qa g [11,.o (.C2 (.b i)),4] rfl (a1_ (Qcd _ _ f)) ?_
 cases h
 exact d1_ r2_
def Qif (a:Qat)(b:Int):Option Bool:=
 (QeZ a.Expr b).bind fun c=>
 some c
theorem Qts (a e){r}(h:Qif a e=some r):Qc prog 164 [.L 616,.L 617] [(616,.var (Q2 a)),(617,.var (Qe e))] (Gives (.b r) [(616,.var (Q2 a)),(617,.var (Qe e))]):=by
 refine wk_ 7 func164 fun C g=>?_
 obtain⟨i,f,h⟩:=Qb h
 refine Qa g [8,.A (Qk a.Expr),1,.o (.C2 (.b i)),4] rfl (a2_ rfl (Qmt _ _ f)) ?_
 cases h
 exact d1_ r2_
def Qig (c:Qn)(b:Qat)(d:Int)(e:Int)(f:Int):Option Int:=
 (Qie c b).bind fun g=>
 bif (!g)then
 some d
 else
 (Qif b e).bind fun a=>
 bif (!a)then
 some f
 else
 some 0
theorem Qtt (j f k l m){r}(h:Qig j f k l m=some r):Qc prog 47 [.own 616 2] [(616,.var [.clo (.func 163) [] [.L 617,.L 618],.I k,.clo (.func 164) [] [.L 618,.L 619],.I m]),(617,.var (Qd j)),(618,.var (Q2 f)),(619,.var (Qe l))] (Gives (.I r) [(616,.var [.clo (.func 163) [] [.L 617,.L 618],.I k,.clo (.func 164) [] [.L 618,.L 619],.I m]),(617,.var (Qd j)),(618,.var (Q2 f)),(619,.var (Qe l))]):=by
 refine wk_ 18 func47 fun C c=>?_
 refine tg_ c [14] ?_
 refine AK.loopN 3 (AK.rnd ?_)
 obtain⟨t,p,h⟩:=Qb h
 refine Qa c [2,.v .no [] (.b true),10,.o (.any (.L 616) none),3,.O 4 (.var [.clo (.func 163) [] [.L 617,.L 618],.I k]),6,.cm (.clo) [(616,617),(617,618)] [(617,616),(618,617)] [] [.d,.d] [(616,.var (Qd j)),(617,.var (Q2 f))] (.b t),3] rfl (a4_ rfl (fun σ g q _=>Stp.idxV rfl rfl (QR c.n rfl) (g _ _ rfl) (g _ _ rfl) (Qo.es rfl) (q _ _ rfl) (by decide)) rfl (Qtr _ _ p)) ?_
 refine bg_ h (fun e h=>Qa c [.T,13,.K [2] [616,617,618,619]] rfl (a1_ e) ?_) fun e h=>Qa c [.F,4,.v .no [] (.I 1),2] rfl (a2_ e rfl) ?_
 ·cases h
  exact d1_ r4_
 refine AK.met (AK.rnd ?_)
 obtain⟨s,i,h⟩:=Qb h
 refine Qa c [2,.v .no [] (.b true),10,.o (.any (.loc 616 0 2) none),1,.kill 4,2,.O 4 (.var [.clo (.func 164) [] [.L 618,.L 619],.I m]),6,.cm (.clo) [(616,618),(617,619)] [(618,616),(619,617)] [] [.d,.d] [(616,.var (Q2 f)),(617,.var (Qe l))] (.b s),3] rfl (a4_ rfl (fun σ g q _=>Stp.idxV rfl rfl (QR c.n rfl) (g _ _ rfl) (g _ _ rfl) (Qo.es rfl) (q _ _ rfl) (by decide)) rfl (Qts _ _ i)) ?_
 refine bg_ h (fun a h=>Qa c [.T,13,.K [2] [616,617,618,619]] rfl (a1_ a) ?_) fun a h=>Qa c [.F,4,.v .no [] (.I 2),2] rfl (a2_ a rfl) ?_
 ·cases h
  exact d1_ r4_
 refine AK.met (AK.rnd ?_)
 refine Qa c [2,.v .no [] (.b false),15] rfl (a1_ rfl) ?_
 cases h
 exact d1_ r4_
def QkD (e:Int)(a:Qat)(b:Qn)(c:Int):Option Int:=
 (Qig b a 3 c 1).bind fun d=>
 some d
theorem Qu7 (f c a b){r}(h:QkD f c a b=some r):Qc prog 162 [.I f,.agg (Q2 c),.L 616,.L 617] [(616,.var (Qd a)),(617,.var (Qe b))] (Gives (.I r) [(616,.var (Qd a)),(617,.var (Qe b))]):=by
 refine wk_ 13 func162 fun C g=>?_
 obtain⟨i,e,h⟩:=Qb h
 refine Qa g [9,.A [.clo (.func 163) [] [.L 616,.L 5],.I 3],1,.A [.clo (.func 164) [] [.L 5,.L 617],.I 1],.o (.any (.own 11 2) (some (.var [.clo (.func 163) [] [.L 616,.L 5],.I 3,.clo (.func 164) [] [.L 5,.L 617],.I 1]))),.cm (.fn) [(616,11),(617,616),(618,5),(619,617)] [(11,616),(616,617),(5,618),(617,619)] [] [.d] [(616,.var [.clo (.func 163) [] [.L 617,.L 618],.I 3,.clo (.func 164) [] [.L 618,.L 619],.I 1]),(617,.var (Qd a)),(618,.var (Q2 c)),(619,.var (Qe b))] (.I i),4] rfl (a4_ rfl rfl (fun σ j k hf=>Stp.buildAny rfl rfl (QR g.n rfl) (Qo.es rfl) QnD rfl (by decide) (by decide) (QfV j rfl) rfl rfl (hf rfl)) (Qtt _ _ _ _ _ e)) ?_
 cases h
 exact d1_ r2_
def Qeu (d:(List Qat))(e:Qn)(f:Int)(a:Int):Option (Int⊕((Int×Int)⊕Unit)):=
 bif (decide (a<(d.length:Int)))then
 (idx d a).bind fun c=>
 (QkD a c e f).bind fun b=>
 bif (b != 0)then
 some (.inr (.inl (a,b)))
 else
 some (.inl (w64 (a+1)))
 else
 some (.inr (.inr ()))
def Qev (a:Int)(b:Int):Option (Int×Int):=
 some (a,b)
def Qew : Option (Int×Int):=
 some (0,0)
def QfC (a:(List Qat))(b:Qn)(c:Int):Option (Int×Int):=
 (Qz (fun st=>Qeu a b c st) 0).bind (Sum.elim (fun q=>Qev q.1 q.2) (fun q=>Qew))
theorem Qqe (j f g){r}(h:QfC j f g=some r):Qc prog 161 [.sl 4 (j.map Q2),.clo (.func 162) [] [.L 616,.L 617]] [(616,.var (Qd f)),(617,.var (Qe g))] (Gives (.tup [.I r.1,.I r.2]) [(616,.var (Qd f)),(617,.var (Qe g))]):=by
 refine wk_ 25 func161 fun C i=>?_
 refine Qa i [10,.o (.ln j.length),4,.K [1,9,10,11] [616,617]] rfl (a1_ Qf) ?_
 obtain⟨p,k,h⟩:=Qb h
 refine AK.loop (body:=(fun st=>Qeu j f g st)) (fun st σ=>σ=⟨[(1,.clo (.func 162) [] [.L 616,.L 617]),(9,.sl 4 (j.map Q2)),(10,.I (j.length:Int)),(11,.I st)],[(616,.var (Qd f)),(617,.var (Qe g))]⟩) (Sum.elim (fun q e σ=>e=.ret/\σ=⟨[(4,.I q.1),(5,.I q.2)],[(616,.var (Qd f)),(617,.var (Qe g))]⟩) (fun q e σ=>e=.exit 0/\σ=⟨[],[(616,.var (Qd f)),(617,.var (Qe g))]⟩)) k rfl ?_ ?_
 ·rintro w o σ rfl h
  refine tg_ i [6] ?_
  rcases Qm h with⟨a,h⟩|⟨a,h⟩
  ·obtain⟨c,l,h⟩:=Qb h
   obtain⟨s,m,h⟩:=Qb h
   refine Qa i [.T,7,.o (.row (Q2 c)),.A (Q2 c),3,.O 7 (.var (Q2 c)),6,.A (Q2 c),.cm (.clo) [(616,616),(617,617)] [(616,616),(617,617)] [] [.d,.d,.d,.d] [(616,.var (Qd f)),(617,.var (Qe g))] (.I s),9] rfl (a6_ a (QJ l) rfl rfl rfl (Qu7 _ _ _ _ m)) ?_
   refine bq_ i h [.T,11,.K [4,5] [616,617]] rfl (fun b h=>?_) [.F,7,.K [1,9,10,11] [616,617]] rfl fun b h=>?_
   ·cases h
    exact Qah rfl (an_ rfl rfl)
   cases h
   exact QY rfl rfl
  refine Qa i [.F,2,.K [] [616,617]] rfl (a1_ a) ?_
  cases h
  exact QZ rfl (an_ rfl rfl)
 rcases p with(⟨t,u⟩|_)
 ·replace h:Qev t u=some r:=h
  rintro e σ ⟨rfl,rfl⟩
  refine tg_ i [2] ?_
  cases h
  exact d2_ r2_
 replace h:Qew=some r:=h
 rintro e σ ⟨rfl,rfl⟩
 refine tg_ i [9] ?_
 cases h
 exact d2_ r2_
def Qj2 (b:Qn)(c:(List Qat))(a:Int):Option Int:=
 (QfC c b a).bind fun d=>
 some d.2
theorem QqJ (b e a){r}(h:Qj2 b e a=some r):Qc prog 118 [.agg (Qd b),.sl 4 (e.map Q2),.I a] [] (Gives (.I r) []):=by
 refine wk_ 16 func118 fun C g=>?_
 obtain⟨f,c,h⟩:=Qb h
 refine Qa g [11,.cm (.fn) [(616,3),(617,5)] [(3,616),(5,617)] [] [.d,.d] [(616,.var (Qd b)),(617,.var (Qe a))] (.tup [.I f.1,.I f.2]),14] rfl (a1_ (Qqe _ _ _ c)) ?_
 cases h
 exact d1_ tt_
def QkE (a:Qn)(b:QF)(c:Int):Option Int:=
 (Qj2 a b.Ins c).bind fun d=>
 some d
theorem Qu8 (a b e){r}(h:QkE a b e=some r):Qc prog 117 [.L 616,.L 617,.L 618] [(616,.var (Qd a)),(617,.var (Qj b)),(618,.var (Qe e))] (Gives (.I r) [(616,.var (Qd a)),(617,.var (Qj b)),(618,.var (Qe e))]):=by
 refine wk_ 9 func117 fun C g=>?_
 obtain⟨i,f,h⟩:=Qb h
 refine Qa g [7,.A (Qd a),3,.o (.C3 (.I i)),4] rfl (a2_ rfl (QqJ _ _ _ f)) ?_
 cases h
 exact d1_ r3_
def QgK (b:Qn)(c:QF)(d:Int)(e:Int):Option (Bool×Int):=
 (QkE b c d).bind fun a=>
 some ((a==0),a)
theorem QrH (c e f k){r}(h:QgK c e f k=some r):Qc prog 150 [.L 616,.L 620] [(616,.var [.clo (.func 117) [] [.L 617,.L 618,.L 619]]),(617,.var (Qd c)),(618,.var (Qj e)),(619,.var (Qe f)),(620,.var [.L 621]),(621,.var (Qe k))] (Gives (.b r.1) [(616,.var [.clo (.func 117) [] [.L 617,.L 618,.L 619]]),(617,.var (Qd c)),(618,.var (Qj e)),(619,.var (Qe f)),(620,.var [.L 621]),(621,.var (Qe r.2))]):=by
 refine wk_ 11 func150 fun C g=>?_
 obtain⟨i,j,h⟩:=Qb h
 refine tg_ g [6,.K [0,1] [616,617,618,619,620,621]] ?_
 refine AK.draw2 Qo g mixed [.N,.N,.a (.any (.I i) none) none false,.N,.m .s] [] [] [1] [616,617,618,619,620,621] rfl rfl rfl ⟨tt_,(fun σ l o _=>Stp.callSame (md:=.cm (.clo) [(616,617),(617,618),(618,619)] [(617,616),(618,617),(619,618)] [] [.d,.d,.d] [(616,.var (Qd c)),(617,.var (Qj e)),(618,.var (Qe f))] (.I i) [617,618,619]) Qo g l o rfl ⟨⟨tt_,(Qu8 _ _ _ j)⟩,r3_⟩)⟩ rfl (by kernel_rfl) rfl rfl rfl ?_
 refine Qa g [.O 621 (.var (Qe i)),11] rfl (a1_ rfl) ?_
 cases h
 exact d1_ r6_
def QkF (a:Qn)(b:QF)(c:Int):Option Int:=
 (Qj2 a b.Outs c).bind fun d=>
 some d
theorem Qu9 (a b e){r}(h:QkF a b e=some r):Qc prog 119 [.L 616,.L 617,.L 618] [(616,.var (Qd a)),(617,.var (Qj b)),(618,.var (Qe e))] (Gives (.I r) [(616,.var (Qd a)),(617,.var (Qj b)),(618,.var (Qe e))]):=by
 refine wk_ 9 func119 fun C g=>?_
 obtain⟨i,f,h⟩:=Qb h
 refine Qa g [7,.A (Qd a),3,.o (.C3 (.I i)),4] rfl (a2_ rfl (QqJ _ _ _ f)) ?_
 cases h
 exact d1_ r3_
def QgL (b:Qn)(c:QF)(d:Int)(e:Int):Option (Bool×Int):=
 (QkF b c d).bind fun a=>
 some ((a==0),a)
theorem QrI (c e f k){r}(h:QgL c e f k=some r):Qc prog 150 [.L 616,.L 620] [(616,.var [.clo (.func 119) [] [.L 617,.L 618,.L 619]]),(617,.var (Qd c)),(618,.var (Qj e)),(619,.var (Qe f)),(620,.var [.L 621]),(621,.var (Qe k))] (Gives (.b r.1) [(616,.var [.clo (.func 119) [] [.L 617,.L 618,.L 619]]),(617,.var (Qd c)),(618,.var (Qj e)),(619,.var (Qe f)),(620,.var [.L 621]),(621,.var (Qe r.2))]):=by
 refine wk_ 11 func150 fun C g=>?_
 obtain⟨i,j,h⟩:=Qb h
 refine tg_ g [6,.K [0,1] [616,617,618,619,620,621]] ?_
 refine AK.draw2 Qo g mixed [.N,.N,.a (.any (.I i) none) none false,.N,.m .s] [] [] [1] [616,617,618,619,620,621] rfl rfl rfl ⟨tt_,(fun σ l o _=>Stp.callSame (md:=.cm (.clo) [(616,617),(617,618),(618,619)] [(617,616),(618,617),(619,618)] [] [.d,.d,.d] [(616,.var (Qd c)),(617,.var (Qj e)),(618,.var (Qe f))] (.I i) [617,618,619]) Qo g l o rfl ⟨⟨tt_,(Qu9 _ _ _ j)⟩,r3_⟩)⟩ rfl (by kernel_rfl) rfl rfl rfl ?_
 refine Qa g [.O 621 (.var (Qe i)),11] rfl (a1_ rfl) ?_
 cases h
 exact d1_ r6_
def Qgj (a:Qn)(b:Int):Option Bool:=
 (QaW a.Places b).bind fun c=>
 some c
theorem Qrm (a e){r}(h:Qgj a e=some r):Qc prog 167 [.L 616,.L 617] [(616,.var (Qd a)),(617,.var (Qe e))] (Gives (.b r) [(616,.var (Qd a)),(617,.var (Qe e))]):=by
 refine wk_ 7 func167 fun C g=>?_
 obtain⟨i,f,h⟩:=Qb h
 refine Qa g [10,.o (.C2 (.b i)),4] rfl (a1_ (Qcd _ _ f)) ?_
 cases h
 exact d1_ r2_
def Qgk (b:(List Int))(a:Int)(c:Int):Option Bool:=
 (chk (decide (0<=a)&&decide (0<=a.toNat)&&decide (a.toNat<=b.length))).bind fun _=>
 (QaH ((b.drop 0).take (a.toNat-0)) c).bind fun d=>
 some (!d)
theorem Qrn (f g j){r}(h:Qgk f g j=some r):Qc prog 168 [.L 616,.L 617,.L 618] [(616,.var (Qu f)),(617,.var (Qe g)),(618,.var (Qe j))] (Gives (.b r) [(616,.var (Qu f)),(617,.var (Qe g)),(618,.var (Qe j))]):=by
 refine wk_ 10 func168 fun C i=>?_
 obtain⟨e,h⟩:=QaV h
 obtain⟨o,k,h⟩:=Qb h
 refine tg_ i [6,.K [0,1,2,3] [616,617,618]] ?_
 refine AK.draw2 Qo i mixed [.N,.N,.a (.any (.sl 1 (((f.drop 0).take (g.toNat-0)).map Qe)) none) none false,.N,.a (.C2 (.b o)) none false,.N,.m .s] [] [] [3] [616,617,618] rfl rfl rfl ⟨⟨tt_,(fun σ l p _=>Stp.sliceD rfl rfl (QR i.n rfl) (l _ _ rfl) (Qo.es rfl) Bnd.no (Bnd.val (l _ _ rfl) (Qap (Qpc e)) rfl) (Qap (Qpd e)) (QbM (Qap (Qrt e)) (Nat.le_of_eq Qf.symm)) QsA)⟩,(QhA _ _ k)⟩ rfl (by kernel_rfl) rfl rfl rfl ?_
 refine tg_ i [2] ?_
 cases h
 exact d1_ r3_
def Qih (c:Qn)(b:Int)(d:Int)(e:(List Int))(f:Int)(g:Int):Option Int:=
 (Qgj c b).bind fun h=>
 bif (!h)then
 some d
 else
 (Qgk e f b).bind fun a=>
 bif (!a)then
 some g
 else
 some 0
theorem Qtu (j f k l m p){r}(h:Qih j f k l m p=some r):Qc prog 47 [.own 616 2] [(616,.var [.clo (.func 167) [] [.L 617,.L 618],.I k,.clo (.func 168) [] [.L 619,.L 620,.L 618],.I p]),(617,.var (Qd j)),(618,.var (Qe f)),(619,.var (Qu l)),(620,.var (Qe m))] (Gives (.I r) [(616,.var [.clo (.func 167) [] [.L 617,.L 618],.I k,.clo (.func 168) [] [.L 619,.L 620,.L 618],.I p]),(617,.var (Qd j)),(618,.var (Qe f)),(619,.var (Qu l)),(620,.var (Qe m))]):=by
 refine wk_ 18 func47 fun C e=>?_
 refine tg_ e [14] ?_
 refine AK.loopN 3 (AK.rnd ?_)
 obtain⟨u,q,h⟩:=Qb h
 refine Qa e [2,.v .no [] (.b true),10,.o (.any (.L 616) none),3,.O 4 (.var [.clo (.func 167) [] [.L 617,.L 618],.I k]),6,.cm (.clo) [(616,617),(617,618)] [(617,616),(618,617)] [] [.d,.d] [(616,.var (Qd j)),(617,.var (Qe f))] (.b u),3] rfl (a4_ rfl (fun σ g s _=>Stp.idxV rfl rfl (QR e.n rfl) (g _ _ rfl) (g _ _ rfl) (Qo.es rfl) (s _ _ rfl) (by decide)) rfl (Qrm _ _ q)) ?_
 refine bg_ h (fun a h=>Qa e [.T,13,.K [2] [616,617,618,619,620]] rfl (a1_ a) ?_) fun a h=>Qa e [.F,4,.v .no [] (.I 1),2] rfl (a2_ a rfl) ?_
 ·cases h
  exact d1_ r5_
 refine AK.met (AK.rnd ?_)
 obtain⟨t,i,h⟩:=Qb h
 refine Qa e [2,.v .no [] (.b true),10,.o (.any (.loc 616 0 2) none),1,.kill 4,2,.O 4 (.var [.clo (.func 168) [] [.L 619,.L 620,.L 618],.I p]),6,.cm (.clo) [(616,619),(617,620),(618,618)] [(619,616),(620,617),(618,618)] [] [.d,.d,.d] [(616,.var (Qu l)),(617,.var (Qe m)),(618,.var (Qe f))] (.b t),3] rfl (a4_ rfl (fun σ g s _=>Stp.idxV rfl rfl (QR e.n rfl) (g _ _ rfl) (g _ _ rfl) (Qo.es rfl) (s _ _ rfl) (by decide)) rfl (Qrn _ _ _ i)) ?_
 refine bg_ h (fun c h=>Qa e [.T,13,.K [2] [616,617,618,619,620]] rfl (a1_ c) ?_) fun c h=>Qa e [.F,4,.v .no [] (.I 2),2] rfl (a2_ c rfl) ?_
 ·cases h
  exact d1_ r5_
 refine AK.met (AK.rnd ?_)
 refine Qa e [2,.v .no [] (.b false),15] rfl (a1_ rfl) ?_
 cases h
 exact d1_ r5_
def Qhj (b:Int)(a:Int)(c:Qn)(d:(List Int)):Option Int:=
 (Qih c a 3 d b 5).bind fun e=>
 some e
theorem QsO (e a b c){r}(h:Qhj e a b c=some r):Qc prog 166 [.I e,.I a,.L 616,.L 617] [(616,.var (Qd b)),(617,.var (Qu c))] (Gives (.I r) [(616,.var (Qd b)),(617,.var (Qu c))]):=by
 refine wk_ 13 func166 fun C g=>?_
 obtain⟨i,f,h⟩:=Qb h
 refine Qa g [10,.A [.clo (.func 167) [] [.L 616,.L 5],.I 3],1,.A [.clo (.func 168) [] [.L 617,.L 4,.L 5],.I 5],.o (.any (.own 11 2) (some (.var [.clo (.func 167) [] [.L 616,.L 5],.I 3,.clo (.func 168) [] [.L 617,.L 4,.L 5],.I 5]))),.cm (.fn) [(616,11),(617,616),(618,5),(619,617),(620,4)] [(11,616),(616,617),(5,618),(617,619),(4,620)] [] [.d] [(616,.var [.clo (.func 167) [] [.L 617,.L 618],.I 3,.clo (.func 168) [] [.L 619,.L 620,.L 618],.I 5]),(617,.var (Qd b)),(618,.var (Qe a)),(619,.var (Qu c)),(620,.var (Qe e))] (.I i),4] rfl (a4_ rfl rfl (fun σ j k hf=>Stp.buildAny rfl rfl (QR g.n rfl) (Qo.es rfl) QnD rfl (by decide) (by decide) (QfV j rfl) rfl rfl (hf rfl)) (Qtu _ _ _ _ _ _ f)) ?_
 cases h
 exact d1_ r2_
def Qgl (d:(List Int))(e:Qn)(f:(List Int))(a:Int):Option (Int⊕((Int×Int)⊕Unit)):=
 bif (decide (a<(d.length:Int)))then
 (idx d a).bind fun c=>
 (Qhj a c e f).bind fun b=>
 bif (b != 0)then
 some (.inr (.inl (a,b)))
 else
 some (.inl (w64 (a+1)))
 else
 some (.inr (.inr ()))
def Qgm (a:Int)(b:Int):Option (Int×Int):=
 some (a,b)
def Qgn : Option (Int×Int):=
 some (0,0)
def Qii (a:(List Int))(b:Qn)(c:(List Int)):Option (Int×Int):=
 (Qz (fun st=>Qgl a b c st) 0).bind (Sum.elim (fun q=>Qgm q.1 q.2) (fun q=>Qgn))
theorem Qtv (i c f){r}(h:Qii i c f=some r):Qc prog 165 [.sl 1 (i.map Qe),.clo (.func 166) [] [.L 616,.L 617]] [(616,.var (Qd c)),(617,.var (Qu f))] (Gives (.tup [.I r.1,.I r.2]) [(616,.var (Qd c)),(617,.var (Qu f))]):=by
 refine wk_ 25 func165 fun C g=>?_
 refine Qa g [10,.o (.ln i.length),4,.K [1,9,10,11] [616,617]] rfl (a1_ Qf) ?_
 obtain⟨m,j,h⟩:=Qb h
 refine AK.loop (body:=(fun st=>Qgl i c f st)) (fun st σ=>σ=⟨[(1,.clo (.func 166) [] [.L 616,.L 617]),(9,.sl 1 (i.map Qe)),(10,.I (i.length:Int)),(11,.I st)],[(616,.var (Qd c)),(617,.var (Qu f))]⟩) (Sum.elim (fun q e σ=>e=.ret/\σ=⟨[(4,.I q.1),(5,.I q.2)],[(616,.var (Qd c)),(617,.var (Qu f))]⟩) (fun q e σ=>e=.exit 0/\σ=⟨[],[(616,.var (Qd c)),(617,.var (Qu f))]⟩)) j rfl ?_ ?_
 ·rintro v o σ rfl h
  refine tg_ g [6] ?_
  rcases Qm h with⟨a,h⟩|⟨a,h⟩
  ·obtain⟨p,k,h⟩:=Qb h
   obtain⟨s,l,h⟩:=Qb h
   refine Qa g [.T,7,.o (.row (Qe p)),10,.cm (.clo) [(616,616),(617,617)] [(616,616),(617,617)] [] [.d,.d,.d,.d] [(616,.var (Qd c)),(617,.var (Qu f))] (.I s),9] rfl (a3_ a (QJ k) (QsO _ _ _ _ l)) ?_
   refine bq_ g h [.T,11,.K [4,5] [616,617]] rfl (fun b h=>?_) [.F,7,.K [1,9,10,11] [616,617]] rfl fun b h=>?_
   ·cases h
    exact Qah rfl (an_ rfl rfl)
   cases h
   exact QY rfl rfl
  refine Qa g [.F,2,.K [] [616,617]] rfl (a1_ a) ?_
  cases h
  exact QZ rfl (an_ rfl rfl)
 rcases m with(⟨t,u⟩|_)
 ·replace h:Qgm t u=some r:=h
  rintro e σ ⟨rfl,rfl⟩
  refine tg_ g [2] ?_
  cases h
  exact d2_ r2_
 replace h:Qgn=some r:=h
 rintro e σ ⟨rfl,rfl⟩
 refine tg_ g [9] ?_
 cases h
 exact d2_ r2_
def Qjs (b:Qn)(a:(List Int)):Option Int:=
 (Qii a b a).bind fun c=>
 some c.2
theorem Que (a b){r}(h:Qjs a b=some r):Qc prog 121 [.agg (Qd a),.sl 1 (b.map Qe)] [] (Gives (.I r) []):=by
 refine wk_ 14 func121 fun C f=>?_
 obtain⟨e,c,h⟩:=Qb h
 refine Qa f [11,.cm (.fn) [(616,2),(617,3)] [(2,616),(3,617)] [] [.d,.d] [(616,.var (Qd a)),(617,.var (Qu b))] (.tup [.I e.1,.I e.2]),14] rfl (a1_ (Qtv _ _ _ c)) ?_
 cases h
 exact d1_ tt_
def Qjt (a:Qn)(b:QF):Option Int:=
 (Qjs a b.Cancel).bind fun c=>
 some c
theorem Quf (a b){r}(h:Qjt a b=some r):Qc prog 120 [.L 616,.L 617] [(616,.var (Qd a)),(617,.var (Qj b))] (Gives (.I r) [(616,.var (Qd a)),(617,.var (Qj b))]):=by
 refine wk_ 7 func120 fun C f=>?_
 obtain⟨g,e,h⟩:=Qb h
 refine Qa f [7,.A (Qd a),2,.o (.C2 (.I g)),4] rfl (a2_ rfl (Que _ _ e)) ?_
 cases h
 exact d1_ r2_
def QgM (b:Qn)(c:QF)(d:Int):Option (Bool×Int):=
 (Qjt b c).bind fun a=>
 some ((a==0),a)
theorem QrJ (c e j){r}(h:QgM c e j=some r):Qc prog 150 [.L 616,.L 619] [(616,.var [.clo (.func 120) [] [.L 617,.L 618]]),(617,.var (Qd c)),(618,.var (Qj e)),(619,.var [.L 620]),(620,.var (Qe j))] (Gives (.b r.1) [(616,.var [.clo (.func 120) [] [.L 617,.L 618]]),(617,.var (Qd c)),(618,.var (Qj e)),(619,.var [.L 620]),(620,.var (Qe r.2))]):=by
 refine wk_ 11 func150 fun C f=>?_
 obtain⟨g,i,h⟩:=Qb h
 refine tg_ f [6,.K [0,1] [616,617,618,619,620]] ?_
 refine AK.draw2 Qo f mixed [.N,.N,.a (.any (.I g) none) none false,.N,.m .s] [] [] [1] [616,617,618,619,620] rfl rfl rfl ⟨tt_,(fun σ k l _=>Stp.callSame (md:=.cm (.clo) [(616,617),(617,618)] [(617,616),(618,617)] [] [.d,.d] [(616,.var (Qd c)),(617,.var (Qj e))] (.I g) [617,618]) Qo f k l rfl ⟨⟨tt_,(Quf _ _ i)⟩,r2_⟩)⟩ rfl (by kernel_rfl) rfl rfl rfl ?_
 refine Qa f [.O 620 (.var (Qe g)),11] rfl (a1_ rfl) ?_
 cases h
 exact d1_ r5_
def Qfc (a:Int)(b:(List Qat)):Option Bool:=
 some ((decide (1<=a))&&((decide (a<=3))&&((a != 3)||(decide ((b.length:Int)<=4)))))
theorem QnI (a g){r}(h:Qfc a g=some r):Qc prog 169 [.I a,.sl 4 (g.map Q2)] [] (Gives (.b r) []):=by
 refine wk_ 20 func169 fun C f=>?_
 unfold Qfc at h
 refine tg_ f [6] ?_
 refine AK.meetX (fun σ=>σ=⟨[(4,.b ((decide (1<=a))&&((decide (a<=3))&&((a != 3)||(decide ((g.length:Int)<=4))))))],[]⟩) ?_ ?_
 ·refine tg_ f [4] ?_
  rcases QE (decide (1<=a))with c | c
  ·refine Qa f [.S 7 (.b true),4] rfl (tc_ c) ?_
   rcases QE (decide (a<=3))with d | d
   ·refine Qa f [.S 11 (.b true),3] rfl (tc_ d) ?_
    rcases QE (a != 3)with e | e
    ·refine Qa f [.S 14 (.b true),7,.S 4 (.b ((decide (1<=a))&&((decide (a<=3))&&((a != 3)||(decide ((g.length:Int)<=4)))))),.K [4] []] rfl ⟨(tc_ e),(congrArg V.b (Qaq c (Qaq d (orT e rfl))))⟩ ?_
     exact mt_
    refine Qa f [.S 14 (.b false),1,.o (.ln g.length),5,.S 4 (.b ((decide (1<=a))&&((decide (a<=3))&&((a != 3)||(decide ((g.length:Int)<=4)))))),.K [4] []] rfl ⟨⟨(tc_ e),Qf⟩,(congrArg V.b (Qaq c (Qaq d (orF e rfl))))⟩ ?_
    exact mt_
   refine Qa f [.S 11 (.b false),10,.S 4 (.b ((decide (1<=a))&&((decide (a<=3))&&((a != 3)||(decide ((g.length:Int)<=4)))))),.K [4] []] rfl ⟨(tc_ d),(congrArg V.b (Qaq c (Qa4 d rfl)))⟩ ?_
   exact mt_
  refine Qa f [.S 7 (.b false),14,.S 4 (.b ((decide (1<=a))&&((decide (a<=3))&&((a != 3)||(decide ((g.length:Int)<=4)))))),.K [4] []] rfl ⟨(tc_ c),(congrArg V.b (Qa4 c rfl))⟩ ?_
  exact mt_
 rintro σ rfl
 refine tg_ f [2] ?_
 cases h
 exact d1_ tt_
def Qpy (a:QF):Option Bool:=
 (Qfc a.Join a.Ins).bind fun b=>
 bif b then
 (Qfc a.Split a.Outs).bind fun c=>
 bif c then
 bif (decide (0<=a.After))then
 bif (decide (a.After<=65536))then
 some (((a.Many.1==0)&&((a.Many.2.1==0)&&(a.Many.2.2==0)))||((decide (1<=a.Many.1))&&((decide (a.Many.1<=a.Many.2.1))&&((decide (a.Many.2.1<=16))&&((decide (1<=a.Many.2.2))&&(decide (a.Many.2.2<=a.Many.2.1)))))))
 else
 some false
 else
 some false
 else
 some false
 else
 some false
def Qij (a:Bool):Option Bool:=
 some a
def Qiz (a:QF):Option Bool:=
 (Qpy a).bind (fun b=>Qij b)
theorem QvW (a){r}(h:Qiz a=some r):Qc prog 123 [.agg (Qj a)] [] (Gives (.b r) []):=by
 refine wk_ 70 func123 fun C e=>?_
 unfold Qiz at h
 refine tg_ e [7,.K [1] [1]] ?_
 refine AK.draw2 Qo e mixed [.N,.N,.N,.N,.N,.N,.N,.N,.N,.N,.N,.N] [] [] [1,3,4,5] [1] rfl rfl rfl tt_ rfl (by kernel_rfl) rfl rfl rfl ?_
 refine tg_ e [2] ?_
 refine AK.meetX (fun σ=>σ=⟨[lk_ 1,(6,.b (((a.Many.1==0)&&((a.Many.2.1==0)&&(a.Many.2.2==0)))||((decide (1<=a.Many.1))&&((decide (a.Many.1<=a.Many.2.1))&&((decide (a.Many.2.1<=16))&&((decide (1<=a.Many.2.2))&&(decide (a.Many.2.2<=a.Many.2.1))))))))],[(1,.var (Qj a))]⟩) ?_ ?_
 ·refine Qa e [2,.A (QxF a.Many),.A (QxF (0,0,0)),.o (.any (.b ((a.Many.1==0)&&((a.Many.2.1==0)&&(a.Many.2.2==0)))) none),1] rfl (a3_ rfl rfl (fun σ z A _=>Stp.eqAgg rfl rfl (QR e.n rfl) (z _ _ rfl) (z _ _ rfl) rfl rfl (QDR _ _ _ _ _ _))) ?_
  rcases QE ((a.Many.1==0)&&((a.Many.2.1==0)&&(a.Many.2.2==0)))with f | f
  ·refine Qa e [.S 21 (.b true),23,.S 6 (.b (((a.Many.1==0)&&((a.Many.2.1==0)&&(a.Many.2.2==0)))||((decide (1<=a.Many.1))&&((decide (a.Many.1<=a.Many.2.1))&&((decide (a.Many.2.1<=16))&&((decide (1<=a.Many.2.2))&&(decide (a.Many.2.2<=a.Many.2.1)))))))),.K [1,6] [1]] rfl ⟨(tc_ f),(congrArg V.b (orT f rfl))⟩ ?_
   exact mt_
  refine Qa e [.S 21 (.b false),3] rfl (tc_ f) ?_
  rcases QE (decide (1<=a.Many.1))with g | g
  ·refine Qa e [.S 24 (.b true),5] rfl (tc_ g) ?_
   rcases QE (decide (a.Many.1<=a.Many.2.1))with i | i
   ·refine Qa e [.S 29 (.b true),4] rfl (tc_ i) ?_
    rcases QE (decide (a.Many.2.1<=16))with j | j
    ·refine Qa e [.S 33 (.b true),4] rfl (tc_ j) ?_
     rcases QE (decide (1<=a.Many.2.2))with k | k
     ·refine Qa e [.S 37 (.b true),7,.S 6 (.b (((a.Many.1==0)&&((a.Many.2.1==0)&&(a.Many.2.2==0)))||((decide (1<=a.Many.1))&&((decide (a.Many.1<=a.Many.2.1))&&((decide (a.Many.2.1<=16))&&((decide (1<=a.Many.2.2))&&(decide (a.Many.2.2<=a.Many.2.1)))))))),.K [1,6] [1]] rfl ⟨(tc_ k),(congrArg V.b (orF f (Qaq g (Qaq i (Qaq j (Qaq k rfl))))))⟩ ?_
      exact mt_
     refine Qa e [.S 37 (.b false),7,.S 6 (.b (((a.Many.1==0)&&((a.Many.2.1==0)&&(a.Many.2.2==0)))||((decide (1<=a.Many.1))&&((decide (a.Many.1<=a.Many.2.1))&&((decide (a.Many.2.1<=16))&&((decide (1<=a.Many.2.2))&&(decide (a.Many.2.2<=a.Many.2.1)))))))),.K [1,6] [1]] rfl ⟨(tc_ k),(congrArg V.b (orF f (Qaq g (Qaq i (Qaq j (Qa4 k rfl))))))⟩ ?_
     exact mt_
    refine Qa e [.S 33 (.b false),11,.S 6 (.b (((a.Many.1==0)&&((a.Many.2.1==0)&&(a.Many.2.2==0)))||((decide (1<=a.Many.1))&&((decide (a.Many.1<=a.Many.2.1))&&((decide (a.Many.2.1<=16))&&((decide (1<=a.Many.2.2))&&(decide (a.Many.2.2<=a.Many.2.1)))))))),.K [1,6] [1]] rfl ⟨(tc_ j),(congrArg V.b (orF f (Qaq g (Qaq i (Qa4 j rfl)))))⟩ ?_
    exact mt_
   refine Qa e [.S 29 (.b false),15,.S 6 (.b (((a.Many.1==0)&&((a.Many.2.1==0)&&(a.Many.2.2==0)))||((decide (1<=a.Many.1))&&((decide (a.Many.1<=a.Many.2.1))&&((decide (a.Many.2.1<=16))&&((decide (1<=a.Many.2.2))&&(decide (a.Many.2.2<=a.Many.2.1)))))))),.K [1,6] [1]] rfl ⟨(tc_ i),(congrArg V.b (orF f (Qaq g (Qa4 i rfl))))⟩ ?_
   exact mt_
  refine Qa e [.S 24 (.b false),20,.S 6 (.b (((a.Many.1==0)&&((a.Many.2.1==0)&&(a.Many.2.2==0)))||((decide (1<=a.Many.1))&&((decide (a.Many.1<=a.Many.2.1))&&((decide (a.Many.2.1<=16))&&((decide (1<=a.Many.2.2))&&(decide (a.Many.2.2<=a.Many.2.1)))))))),.K [1,6] [1]] rfl ⟨(tc_ g),(congrArg V.b (orF f (Qa4 g rfl)))⟩ ?_
  exact mt_
 rintro σ rfl
 refine tg_ e [7] ?_
 obtain⟨w,s,h⟩:=Qb h
 replace h:Qij w=some r:=h
 refine AK.meetX (fun σ=>σ=⟨[(2,.b w)],[]⟩) ?_ ?_
 ·replace h:=s
  obtain⟨x,t,h⟩:=Qb h
  refine Qa e [6,.o (.C2 (.b x)),1] rfl (a1_ (QnI _ _ t)) ?_
  rcases Qm h with⟨l,h⟩|⟨l,h⟩
  ·obtain⟨y,u,h⟩:=Qb h
   refine Qa e [.S 49 (.b true),5,.o (.C2 (.b y)),2] rfl ⟨(tc_ l),(QnI _ _ u)⟩ ?_
   refine bg_ h (fun m h=>Qa e [.S 57 (.b true),5] rfl (tc_ m) ?_) fun m h=>Qa e [.S 57 (.b false),14,.K [2] []] rfl (tc_ m) ?_
   ·refine bg_ h (fun p h=>Qa e [.S 62 (.b true),5] rfl (tc_ p) ?_) fun p h=>Qa e [.S 62 (.b false),9,.K [2] []] rfl (tc_ p) ?_
    ·refine bg_ h (fun q h=>Qa e [.S 67 (.b true),4,.K [2] []] rfl (tc_ q) ?_) fun q h=>Qa e [.S 67 (.b false),4,.K [2] []] rfl (tc_ q) ?_
     ·cases h
      exact mt_
     cases h
     exact mt_
    cases h
    exact mt_
   cases h
   exact mt_
  refine Qa e [.S 49 (.b false),22,.K [2] []] rfl (tc_ l) ?_
  cases h
  exact mt_
 rintro σ rfl
 replace h:Qij w=some r:=h
 refine tg_ e [2] ?_
 cases h
 exact d1_ tt_
def Qju (a:QF):Option Bool:=
 (Qiz a).bind fun b=>
 some b
theorem Qug (a){r}(h:Qju a=some r):Qc prog 122 [.L 616] [(616,.var (Qj a))] (Gives (.b r) [(616,.var (Qj a))]):=by
 refine wk_ 4 func122 fun C f=>?_
 obtain⟨g,e,h⟩:=Qb h
 refine Qa f [7,.A (Qj a),.o (.C1 (.b g)),4] rfl (a2_ rfl (QvW _ e)) ?_
 cases h
 exact d1_ r1_
def QeG (b:QF)(v:Int)(f:Qn)(u:Int)(w:Int)(g:Int)(x:Int)(h:Int)(y:Int)(i:Int)(j:Int)(k:Int)(l:Int)(m:Int)(n:Int):Option (Int×Int):=
 (Qky b).bind fun o=>
 bif (!o)then
 some (v,h)
 else
 (QkA f u b).bind fun p=>
 bif (!p)then
 some (w,h)
 else
 (QhC g b).bind fun q=>
 bif (!q)then
 some (x,h)
 else
 (QgJ f b h).bind fun a=>
 bif (!a.1)then
 some (y,a.2)
 else
 (QhD f u).bind fun r=>
 bif (!r)then
 some (i,a.2)
 else
 (QkC b g).bind fun s=>
 bif (!s)then
 some (j,a.2)
 else
 (QgK f b g a.2).bind fun d=>
 bif (!d.1)then
 some (k,d.2)
 else
 (QgL f b g d.2).bind fun e=>
 bif (!e.1)then
 some (l,e.2)
 else
 (QgM f b e.2).bind fun c=>
 bif (!c.1)then
 some (m,c.2)
 else
 (Qju b).bind fun t=>
 bif (!t)then
 some (n,c.2)
 else
 some (0,c.2)
theorem Qtw (f v2 u E v5 D v7 v8 v9 w x y z A B){r}(h:QeG f v2 u E v5 D v7 v8 v9 w x y z A B=some r):Qc prog 47 [.own 616 10] [(616,.var [.clo (.func 107) [] [.L 617],.I v2,.clo (.func 108) [] [.L 618,.L 619,.L 620],.I v5,.clo (.func 110) [] [.L 621,.L 617],.I v7,.clo (.func 150) [] [.L 622,.L 623],.I v9,.clo (.func 114) [] [.L 618,.L 619],.I w,.clo (.func 115) [] [.L 617,.L 621],.I x,.clo (.func 150) [] [.L 625,.L 626],.I y,.clo (.func 150) [] [.L 627,.L 628],.I z,.clo (.func 150) [] [.L 629,.L 630],.I A,.clo (.func 122) [] [.L 617],.I B]),(617,.var (Qj f)),(618,.var (Qd u)),(619,.var (Qe E)),(620,.var [.clo (.func 106) [] [.L 617]]),(621,.var (Qe D)),(622,.var [.clo (.func 112) [] [.L 618,.L 617]]),(623,.var [.L 624]),(624,.var (Qe v8)),(625,.var [.clo (.func 117) [] [.L 618,.L 617,.L 621]]),(626,.var [.L 624]),(627,.var [.clo (.func 119) [] [.L 618,.L 617,.L 621]]),(628,.var [.L 624]),(629,.var [.clo (.func 120) [] [.L 618,.L 617]]),(630,.var [.L 624])] (Gives (.I r.1) [(616,.var [.clo (.func 107) [] [.L 617],.I v2,.clo (.func 108) [] [.L 618,.L 619,.L 620],.I v5,.clo (.func 110) [] [.L 621,.L 617],.I v7,.clo (.func 150) [] [.L 622,.L 623],.I v9,.clo (.func 114) [] [.L 618,.L 619],.I w,.clo (.func 115) [] [.L 617,.L 621],.I x,.clo (.func 150) [] [.L 625,.L 626],.I y,.clo (.func 150) [] [.L 627,.L 628],.I z,.clo (.func 150) [] [.L 629,.L 630],.I A,.clo (.func 122) [] [.L 617],.I B]),(617,.var (Qj f)),(618,.var (Qd u)),(619,.var (Qe E)),(620,.var [.clo (.func 106) [] [.L 617]]),(621,.var (Qe D)),(622,.var [.clo (.func 112) [] [.L 618,.L 617]]),(623,.var [.L 624]),(624,.var (Qe r.2)),(625,.var [.clo (.func 117) [] [.L 618,.L 617,.L 621]]),(626,.var [.L 624]),(627,.var [.clo (.func 119) [] [.L 618,.L 617,.L 621]]),(628,.var [.L 624]),(629,.var [.clo (.func 120) [] [.L 618,.L 617]]),(630,.var [.L 624])]):=by
 refine wk_ 18 func47 fun C a=>?_
 refine tg_ a [14] ?_
 refine AK.loopN 11 (AK.rnd ?_)
 obtain⟨a1,G,h⟩:=Qb h
 refine Qa a [2,.v .no [] (.b true),10,.o (.any (.L 616) none),3,.O 4 (.var [.clo (.func 107) [] [.L 617],.I v2]),6,.cm (.clo) [(616,617)] [(617,616)] [] [.d] [(616,.var (Qj f))] (.b a1),3] rfl (a4_ rfl (fun σ c e _=>Stp.idxV rfl rfl (QR a.n rfl) (c _ _ rfl) (c _ _ rfl) (Qo.es rfl) (e _ _ rfl) (by decide)) rfl (Qu0 _ G)) ?_
 refine bg_ h (fun g h=>Qa a [.T,13,.K [2] [616,617,618,619,620,621,622,623,624,625,626,627,628,629,630]] rfl (a1_ g) ?_) fun g h=>Qa a [.F,4,.v .no [] (.I 1),2] rfl (a2_ g rfl) ?_
 ·cases h
  exact d1_ rF_
 refine AK.met (AK.rnd ?_)
 obtain⟨a2,H,h⟩:=Qb h
 refine Qa a [2,.v .no [] (.b true),10,.o (.any (.loc 616 0 2) none),1,.kill 4,2,.O 4 (.var [.clo (.func 108) [] [.L 618,.L 619,.L 620],.I v5]),6,.cm (.clo) [(616,618),(617,619),(618,620),(619,617)] [(618,616),(619,617),(620,618),(617,619)] [] [.d,.d,.d] [(616,.var (Qd u)),(617,.var (Qe E)),(618,.var [.clo (.func 106) [] [.L 619]]),(619,.var (Qj f))] (.b a2),3] rfl (a4_ rfl (fun σ c e _=>Stp.idxV rfl rfl (QR a.n rfl) (c _ _ rfl) (c _ _ rfl) (Qo.es rfl) (e _ _ rfl) (by decide)) rfl (Qu2 _ _ _ H)) ?_
 refine bg_ h (fun i h=>Qa a [.T,13,.K [2] [616,617,618,619,620,621,622,623,624,625,626,627,628,629,630]] rfl (a1_ i) ?_) fun i h=>Qa a [.F,4,.v .no [] (.I 2),2] rfl (a2_ i rfl) ?_
 ·cases h
  exact d1_ rF_
 refine AK.met (AK.rnd ?_)
 obtain⟨a3,J,h⟩:=Qb h
 refine Qa a [2,.v .no [] (.b true),10,.o (.any (.loc 616 0 4) none),1,.kill 4,2,.O 4 (.var [.clo (.func 110) [] [.L 621,.L 617],.I v7]),6,.cm (.clo) [(616,621),(617,617)] [(621,616),(617,617)] [] [.d,.d] [(616,.var (Qe D)),(617,.var (Qj f))] (.b a3),3] rfl (a4_ rfl (fun σ c e _=>Stp.idxV rfl rfl (QR a.n rfl) (c _ _ rfl) (c _ _ rfl) (Qo.es rfl) (e _ _ rfl) (by decide)) rfl (Qu3 _ _ J)) ?_
 refine bg_ h (fun j h=>Qa a [.T,13,.K [2] [616,617,618,619,620,621,622,623,624,625,626,627,628,629,630]] rfl (a1_ j) ?_) fun j h=>Qa a [.F,4,.v .no [] (.I 3),2] rfl (a2_ j rfl) ?_
 ·cases h
  exact d1_ rF_
 refine AK.met (AK.rnd ?_)
 obtain⟨L,M,h⟩:=Qb h
 refine Qa a [2,.v .no [] (.b true),10,.o (.any (.loc 616 0 6) none),1,.kill 4,2,.O 4 (.var [.clo (.func 150) [] [.L 622,.L 623],.I v9]),6,.cm (.clo) [(616,622),(617,618),(618,617),(619,623),(620,624)] [(622,616),(618,617),(617,618),(623,619),(624,620)] [] [.d,.d] [(616,.var [.clo (.func 112) [] [.L 617,.L 618]]),(617,.var (Qd u)),(618,.var (Qj f)),(619,.var [.L 620]),(620,.var (Qe L.2))] (.b L.1),3] rfl (a4_ rfl (fun σ c e _=>Stp.idxV rfl rfl (QR a.n rfl) (c _ _ rfl) (c _ _ rfl) (Qo.es rfl) (e _ _ rfl) (by decide)) rfl (Qud _ _ _ M)) ?_
 refine bg_ h (fun k h=>Qa a [.T,13,.K [2] [616,617,618,619,620,621,622,623,624,625,626,627,628,629,630]] rfl (a1_ k) ?_) fun k h=>Qa a [.F,4,.v .no [] (.I 4),2] rfl (a2_ k rfl) ?_
 ·cases h
  exact d1_ rF_
 refine AK.met (AK.rnd ?_)
 obtain⟨a4,N,h⟩:=Qb h
 refine Qa a [2,.v .no [] (.b true),10,.o (.any (.loc 616 0 8) none),1,.kill 4,2,.O 4 (.var [.clo (.func 114) [] [.L 618,.L 619],.I w]),6,.cm (.clo) [(616,618),(617,619)] [(618,616),(619,617)] [] [.d,.d] [(616,.var (Qd u)),(617,.var (Qe E))] (.b a4),3] rfl (a4_ rfl (fun σ c e _=>Stp.idxV rfl rfl (QR a.n rfl) (c _ _ rfl) (c _ _ rfl) (Qo.es rfl) (e _ _ rfl) (by decide)) rfl (Qu5 _ _ N)) ?_
 refine bg_ h (fun l h=>Qa a [.T,13,.K [2] [616,617,618,619,620,621,622,623,624,625,626,627,628,629,630]] rfl (a1_ l) ?_) fun l h=>Qa a [.F,4,.v .no [] (.I 5),2] rfl (a2_ l rfl) ?_
 ·cases h
  exact d1_ rF_
 refine AK.met (AK.rnd ?_)
 obtain⟨a5,P,h⟩:=Qb h
 refine Qa a [2,.v .no [] (.b true),10,.o (.any (.loc 616 0 10) none),1,.kill 4,2,.O 4 (.var [.clo (.func 115) [] [.L 617,.L 621],.I x]),6,.cm (.clo) [(616,617),(617,621)] [(617,616),(621,617)] [] [.d,.d] [(616,.var (Qj f)),(617,.var (Qe D))] (.b a5),3] rfl (a4_ rfl (fun σ c e _=>Stp.idxV rfl rfl (QR a.n rfl) (c _ _ rfl) (c _ _ rfl) (Qo.es rfl) (e _ _ rfl) (by decide)) rfl (Qu6 _ _ P)) ?_
 refine bg_ h (fun m h=>Qa a [.T,13,.K [2] [616,617,618,619,620,621,622,623,624,625,626,627,628,629,630]] rfl (a1_ m) ?_) fun m h=>Qa a [.F,4,.v .no [] (.I 6),2] rfl (a2_ m rfl) ?_
 ·cases h
  exact d1_ rF_
 refine AK.met (AK.rnd ?_)
 obtain⟨S,U,h⟩:=Qb h
 refine Qa a [2,.v .no [] (.b true),10,.o (.any (.loc 616 0 12) none),1,.kill 4,2,.O 4 (.var [.clo (.func 150) [] [.L 625,.L 626],.I y]),6,.cm (.clo) [(616,625),(617,618),(618,617),(619,621),(620,626),(621,624)] [(625,616),(618,617),(617,618),(621,619),(626,620),(624,621)] [] [.d,.d] [(616,.var [.clo (.func 117) [] [.L 617,.L 618,.L 619]]),(617,.var (Qd u)),(618,.var (Qj f)),(619,.var (Qe D)),(620,.var [.L 621]),(621,.var (Qe S.2))] (.b S.1),3] rfl (a4_ rfl (fun σ c e _=>Stp.idxV rfl rfl (QR a.n rfl) (c _ _ rfl) (c _ _ rfl) (Qo.es rfl) (e _ _ rfl) (by decide)) rfl (QrH _ _ _ _ U)) ?_
 refine bg_ h (fun p h=>Qa a [.T,13,.K [2] [616,617,618,619,620,621,622,623,624,625,626,627,628,629,630]] rfl (a1_ p) ?_) fun p h=>Qa a [.F,4,.v .no [] (.I 7),2] rfl (a2_ p rfl) ?_
 ·cases h
  exact d1_ rF_
 refine AK.met (AK.rnd ?_)
 obtain⟨W,X,h⟩:=Qb h
 refine Qa a [2,.v .no [] (.b true),10,.o (.any (.loc 616 0 14) none),1,.kill 4,2,.O 4 (.var [.clo (.func 150) [] [.L 627,.L 628],.I z]),6,.cm (.clo) [(616,627),(617,618),(618,617),(619,621),(620,628),(621,624)] [(627,616),(618,617),(617,618),(621,619),(628,620),(624,621)] [] [.d,.d] [(616,.var [.clo (.func 119) [] [.L 617,.L 618,.L 619]]),(617,.var (Qd u)),(618,.var (Qj f)),(619,.var (Qe D)),(620,.var [.L 621]),(621,.var (Qe W.2))] (.b W.1),3] rfl (a4_ rfl (fun σ c e _=>Stp.idxV rfl rfl (QR a.n rfl) (c _ _ rfl) (c _ _ rfl) (Qo.es rfl) (e _ _ rfl) (by decide)) rfl (QrI _ _ _ _ X)) ?_
 refine bg_ h (fun q h=>Qa a [.T,13,.K [2] [616,617,618,619,620,621,622,623,624,625,626,627,628,629,630]] rfl (a1_ q) ?_) fun q h=>Qa a [.F,4,.v .no [] (.I 8),2] rfl (a2_ q rfl) ?_
 ·cases h
  exact d1_ rF_
 refine AK.met (AK.rnd ?_)
 obtain⟨Y,Z,h⟩:=Qb h
 refine Qa a [2,.v .no [] (.b true),10,.o (.any (.loc 616 0 16) none),1,.kill 4,2,.O 4 (.var [.clo (.func 150) [] [.L 629,.L 630],.I A]),6,.cm (.clo) [(616,629),(617,618),(618,617),(619,630),(620,624)] [(629,616),(618,617),(617,618),(630,619),(624,620)] [] [.d,.d] [(616,.var [.clo (.func 120) [] [.L 617,.L 618]]),(617,.var (Qd u)),(618,.var (Qj f)),(619,.var [.L 620]),(620,.var (Qe Y.2))] (.b Y.1),3] rfl (a4_ rfl (fun σ c e _=>Stp.idxV rfl rfl (QR a.n rfl) (c _ _ rfl) (c _ _ rfl) (Qo.es rfl) (e _ _ rfl) (by decide)) rfl (QrJ _ _ _ Z)) ?_
 refine bg_ h (fun s h=>Qa a [.T,13,.K [2] [616,617,618,619,620,621,622,623,624,625,626,627,628,629,630]] rfl (a1_ s) ?_) fun s h=>Qa a [.F,4,.v .no [] (.I 9),2] rfl (a2_ s rfl) ?_
 ·cases h
  exact d1_ rF_
 refine AK.met (AK.rnd ?_)
 obtain⟨a6,a0,h⟩:=Qb h
 refine Qa a [2,.v .no [] (.b true),10,.o (.any (.loc 616 0 18) none),1,.kill 4,2,.O 4 (.var [.clo (.func 122) [] [.L 617],.I B]),6,.cm (.clo) [(616,617)] [(617,616)] [] [.d] [(616,.var (Qj f))] (.b a6),3] rfl (a4_ rfl (fun σ c e _=>Stp.idxV rfl rfl (QR a.n rfl) (c _ _ rfl) (c _ _ rfl) (Qo.es rfl) (e _ _ rfl) (by decide)) rfl (Qug _ a0)) ?_
 refine bg_ h (fun t h=>Qa a [.T,13,.K [2] [616,617,618,619,620,621,622,623,624,625,626,627,628,629,630]] rfl (a1_ t) ?_) fun t h=>Qa a [.F,4,.v .no [] (.I 10),2] rfl (a2_ t rfl) ?_
 ·cases h
  exact d1_ rF_
 refine AK.met (AK.rnd ?_)
 refine Qa a [2,.v .no [] (.b false),15] rfl (a1_ rfl) ?_
 cases h
 exact d1_ rF_
def Qce (a:Qn)(e:Int):Option Int:=
 (Qbw a.Tasks e).bind fun g=>
 bif (!g)then
 some 3
 else
 (QgI a).bind fun f=>
 bif (f.2 != 0)then
 some f.2
 else
 (idx a.Tasks e).bind fun d=>
 (idx a.Tasks e).bind fun b=>
 (QlB 0 a d).bind fun h=>
 (Qh7 0 a d (b.Vars.length:Int)).bind fun i=>
 (Qh8 0 a d (b.Vars.length:Int)).bind fun j=>
 (Qh9 0 a d).bind fun k=>
 (QeG d 1 a e 5 (b.Vars.length:Int) 2 0 (-1) 2 1 (-1) (-1) (-1) 11).bind fun c=>
 bif (c.1==(-1))then
 some c.2
 else
 some c.1
theorem QwS (i z){r}(h:Qce i z=some r):Qc prog 58 [.agg (Qd i),.I z] [] (Gives (.I r) []):=by
 refine wk_ 68 func58 fun C g=>?_
 obtain⟨G,A,h⟩:=Qb h
 refine Qa g [13,.o (.C2 (.b G)),3] rfl (a1_ (Qjr _ _ A)) ?_
 rcases Qm h with⟨k,h⟩|⟨k,h⟩
 ·refine Qa g [.T,7] rfl (a1_ k) ?_
  cases h
  exact d1_ tt_
 obtain⟨E,B,h⟩:=Qb h
 refine Qa g [.F,5,.A (Qd i),.o (.C1 (.tup [.I E.1,.I E.2])),13] rfl (a3_ k rfl (QnH _ B)) ?_
 rcases Qm h with⟨l,h⟩|⟨l,h⟩
 ·refine Qa g [.T,8] rfl (a1_ l) ?_
  cases h
  exact d1_ tt_
 obtain⟨j,D,h⟩:=Qb h
 obtain⟨e,p,h⟩:=Qb h
 refine Qa g [.F,3,.K [2,3] [2,3]] rfl (a1_ l) ?_
 refine AK.draw2 Qo g mixed [.N,.N,.N,.a (.row (Qj j)) none false,.a .no (some ([],.agg (Qj j))) false,.a .no none true,.a .no none true,.a .no none true,.a (.row (Qj e)) none true,.a .no none true,.a .no none true,.a (.ln e.Vars.length) none true,.N,.N,.m .s,.m .s] [2,3] [2,3] [2,3,7,8] [2,3,7,8] rfl rfl rfl ⟨⟨⟨⟨tt_,(QJ D)⟩,rfl⟩,(QJ p)⟩,Qf⟩ rfl (by kernel_rfl) rfl rfl rfl ?_
 obtain⟨H,q,h⟩:=Qb h
 obtain⟨J,t,h⟩:=Qb h
 obtain⟨L,u,h⟩:=Qb h
 obtain⟨M,w,h⟩:=Qb h
 obtain⟨x,y,h⟩:=Qb h
 refine Qa g [.O 7 (.var (Qj j)),.O 8 (.var (Qe (e.Vars.length:Int))),6,.O 9 (.var [.clo (.func 106) [] [.L 7]]),10,.A [.clo (.func 107) [] [.L 7],.I 1],1,.A [.clo (.func 108) [] [.L 2,.L 3,.L 9],.I 5],1,.A [.clo (.func 110) [] [.L 8,.L 7],.I 2],1,.cm (.fn) [(616,10),(617,2),(618,7)] [(45,2),(609,3),(10,616),(2,617),(7,618)] [] [.d,.d] [(2,.var [.L 616]),(3,.var [.clo (.func 112) [] [.L 617,.L 618]]),(616,.var (Qe 0)),(617,.var (Qd i)),(618,.var (Qj j))] (.clo (.func 150) [] [.L 3,.L 2]),.A [.clo (.func 150) [] [.L 609,.L 45],.I (-1)],1,.A [.clo (.func 114) [] [.L 2,.L 3],.I 2],1,.A [.clo (.func 115) [] [.L 7,.L 8],.I 1],1,.cm (.fn) [(616,10),(617,2),(618,7),(619,8)] [(52,2),(610,3),(10,616),(2,617),(7,618),(8,619)] [] [.d,.d] [(2,.var [.L 616]),(3,.var [.clo (.func 117) [] [.L 617,.L 618,.L 619]]),(616,.var (Qe 0)),(617,.var (Qd i)),(618,.var (Qj j)),(619,.var (Qe (e.Vars.length:Int)))] (.clo (.func 150) [] [.L 3,.L 2]),.A [.clo (.func 150) [] [.L 610,.L 52],.I (-1)],1,.cm (.fn) [(616,10),(617,2),(618,7),(619,8)] [(55,2),(611,3),(10,616),(2,617),(7,618),(8,619)] [] [.d,.d] [(2,.var [.L 616]),(3,.var [.clo (.func 119) [] [.L 617,.L 618,.L 619]]),(616,.var (Qe 0)),(617,.var (Qd i)),(618,.var (Qj j)),(619,.var (Qe (e.Vars.length:Int)))] (.clo (.func 150) [] [.L 3,.L 2]),.A [.clo (.func 150) [] [.L 611,.L 55],.I (-1)],1,.cm (.fn) [(616,10),(617,2),(618,7)] [(58,2),(612,3),(10,616),(2,617),(7,618)] [] [.d,.d] [(2,.var [.L 616]),(3,.var [.clo (.func 120) [] [.L 617,.L 618]]),(616,.var (Qe 0)),(617,.var (Qd i)),(618,.var (Qj j))] (.clo (.func 150) [] [.L 3,.L 2]),.A [.clo (.func 150) [] [.L 612,.L 58],.I (-1)],1,.A [.clo (.func 122) [] [.L 7],.I 11],.o (.any (.own 62 10) (some (.var [.clo (.func 107) [] [.L 7],.I 1,.clo (.func 108) [] [.L 2,.L 3,.L 9],.I 5,.clo (.func 110) [] [.L 8,.L 7],.I 2,.clo (.func 150) [] [.L 609,.L 45],.I (-1),.clo (.func 114) [] [.L 2,.L 3],.I 2,.clo (.func 115) [] [.L 7,.L 8],.I 1,.clo (.func 150) [] [.L 610,.L 52],.I (-1),.clo (.func 150) [] [.L 611,.L 55],.I (-1),.clo (.func 150) [] [.L 612,.L 58],.I (-1),.clo (.func 122) [] [.L 7],.I 11]))),.cm (.fn) [(616,62),(617,7),(618,2),(619,3),(620,9),(621,8),(622,609),(623,45),(624,10),(625,610),(626,52),(627,611),(628,55),(629,612),(630,58)] [(62,616),(7,617),(2,618),(3,619),(9,620),(8,621),(609,622),(45,623),(10,624),(610,625),(52,626),(611,627),(55,628),(612,629),(58,630)] [] [.d] [(616,.var [.clo (.func 107) [] [.L 617],.I 1,.clo (.func 108) [] [.L 618,.L 619,.L 620],.I 5,.clo (.func 110) [] [.L 621,.L 617],.I 2,.clo (.func 150) [] [.L 622,.L 623],.I (-1),.clo (.func 114) [] [.L 618,.L 619],.I 2,.clo (.func 115) [] [.L 617,.L 621],.I 1,.clo (.func 150) [] [.L 625,.L 626],.I (-1),.clo (.func 150) [] [.L 627,.L 628],.I (-1),.clo (.func 150) [] [.L 629,.L 630],.I (-1),.clo (.func 122) [] [.L 617],.I 11]),(617,.var (Qj j)),(618,.var (Qd i)),(619,.var (Qe z)),(620,.var [.clo (.func 106) [] [.L 617]]),(621,.var (Qe (e.Vars.length:Int))),(622,.var [.clo (.func 112) [] [.L 618,.L 617]]),(623,.var [.L 624]),(624,.var (Qe x.2)),(625,.var [.clo (.func 117) [] [.L 618,.L 617,.L 621]]),(626,.var [.L 624]),(627,.var [.clo (.func 119) [] [.L 618,.L 617,.L 621]]),(628,.var [.L 624]),(629,.var [.clo (.func 120) [] [.L 618,.L 617]]),(630,.var [.L 624])] (.I x.1),10] rfl ⟨⟨⟨⟨⟨⟨⟨⟨⟨⟨⟨⟨⟨⟨⟨⟨⟨⟨⟨tt_,rfl⟩,rfl⟩,rfl⟩,rfl⟩,rfl⟩,rfl⟩,(QvV _ _ _ q)⟩,rfl⟩,rfl⟩,rfl⟩,(Qtn _ _ _ _ t)⟩,rfl⟩,(Qto _ _ _ _ u)⟩,rfl⟩,(Qtp _ _ _ w)⟩,rfl⟩,rfl⟩,(fun σ P S hf=>Stp.buildAny rfl rfl (QR g.n rfl) (Qo.es rfl) QnD rfl (by decide) (by decide) (QfV P rfl) rfl rfl (hf rfl))⟩,(Qtw _ _ _ _ _ _ _ _ _ _ _ _ _ _ _ y)⟩ ?_
 refine bq_ g h [.T,8,.K [4] []] rfl (fun f h=>?_) [.F,9,.K [4] []] rfl fun f h=>?_
 ·cases h
  exact d1_ tt_
 cases h
 exact d1_ tt_
def QiA (a:Int)(d:QF)(b:Qn):Option Int:=
 (Qce b a).bind fun c=>
 some c
theorem QvX (e f a){r}(h:QiA e f a=some r):Qc prog 57 [.I e,.agg (Qj f),.L 616] [(616,.var (Qd a))] (Gives (.I r) [(616,.var (Qd a))]):=by
 refine wk_ 9 func57 fun C g=>?_
 obtain⟨i,b,h⟩:=Qb h
 refine Qa g [8,.A (Qd a),1,.o (.C2 (.I i)),4] rfl (a2_ rfl (QwS _ _ b)) ?_
 cases h
 exact d1_ r1_
def QbU (d:(List QF))(e:Qn)(a:Int):Option (Int⊕((Int×Int)⊕Unit)):=
 bif (decide (a<(d.length:Int)))then
 (idx d a).bind fun c=>
 (QiA a c e).bind fun b=>
 bif (b != 0)then
 some (.inr (.inl (a,b)))
 else
 some (.inl (w64 (a+1)))
 else
 some (.inr (.inr ()))
def Qd0 (b:Int)(a:Int):Option (Int×Int):=
 some (b,a)
def Qd1 : Option (Int×Int):=
 some (0,0)
def QcF (a:(List QF))(b:Qn):Option (Int×Int):=
 (Qz (fun st=>QbU a b st) 0).bind (Sum.elim (fun q=>Qd0 q.1 q.2) (fun q=>Qd1))
theorem Qpz (i f){r}(h:QcF i f=some r):Qc prog 56 [.sl 14 (i.map Qj),.clo (.func 57) [] [.L 616]] [(616,.var (Qd f))] (Gives (.tup [.I r.1,.I r.2]) [(616,.var (Qd f))]):=by
 refine wk_ 25 func56 fun C g=>?_
 refine Qa g [10,.o (.ln i.length),4,.K [1,9,10,11] [616]] rfl (a1_ Qf) ?_
 obtain⟨m,j,h⟩:=Qb h
 refine AK.loop (body:=(fun st=>QbU i f st)) (fun st σ=>σ=⟨[(1,.clo (.func 57) [] [.L 616]),(9,.sl 14 (i.map Qj)),(10,.I (i.length:Int)),(11,.I st)],[(616,.var (Qd f))]⟩) (Sum.elim (fun q e σ=>e=.ret/\σ=⟨[(4,.I q.1),(5,.I q.2)],[(616,.var (Qd f))]⟩) (fun q e σ=>e=.exit 0/\σ=⟨[],[(616,.var (Qd f))]⟩)) j rfl ?_ ?_
 ·rintro u o σ rfl h
  refine tg_ g [6] ?_
  rcases Qm h with⟨a,h⟩|⟨a,h⟩
  ·obtain⟨c,k,h⟩:=Qb h
   obtain⟨p,l,h⟩:=Qb h
   refine Qa g [.T,7,.o (.row (Qj c)),.A (Qj c),3,.O 7 (.var (Qj c)),6,.A (Qj c),.cm (.clo) [(616,616)] [(616,616)] [] [.d,.d,.d] [(616,.var (Qd f))] (.I p),9] rfl (a6_ a (QJ k) rfl rfl rfl (QvX _ _ _ l)) ?_
   refine bq_ g h [.T,11,.K [4,5] [616]] rfl (fun b h=>?_) [.F,7,.K [1,9,10,11] [616]] rfl fun b h=>?_
   ·cases h
    exact Qah rfl (an_ rfl rfl)
   cases h
   exact QY rfl rfl
  refine Qa g [.F,2,.K [] [616]] rfl (a1_ a) ?_
  cases h
  exact QZ rfl (an_ rfl rfl)
 rcases m with(⟨t,s⟩|_)
 ·replace h:Qd0 t s=some r:=h
  rintro e σ ⟨rfl,rfl⟩
  refine tg_ g [2] ?_
  cases h
  exact d2_ r1_
 replace h:Qd1=some r:=h
 rintro e σ ⟨rfl,rfl⟩
 refine tg_ g [9] ?_
 cases h
 exact d2_ r1_
def QfK (c:Qn):Option (Int×Qe6):=
 (Qly c 2 3 1).bind fun e=>
 bif (e != 0)then
 some (e,(Qe6.mk 1 0))
 else
 (QgI c).bind fun d=>
 bif (d.2 != 0)then
 some (d.2,(Qe6.mk 2 d.1))
 else
 (QeU c.Places c).bind fun a=>
 bif (a.2 != 0)then
 some (a.2,(Qe6.mk 3 a.1))
 else
 (QcF c.Tasks c).bind fun b=>
 bif (b.2 != 0)then
 some (b.2,(Qe6.mk 4 b.1))
 else
 some (0,(Qe6.mk 0 0))
theorem QxN (k){r}(h:QfK k=some r):Qc prog 23 [.agg (Qd k)] [] (Gives (.tup [.agg (QdB r.2),.I r.1]) []):=by
 refine wk_ 58 func23 fun C e=>?_
 obtain⟨t,q,h⟩:=Qb h
 refine Qa e [10,.A [.clo (.func 48) [] [.L 1],.I 2],1,.A [.clo (.func 49) [] [.L 1],.I 3],1,.A [.clo (.func 51) [] [.L 1],.I 1],.o (.any (.own 17 3) (some (.var [.clo (.func 48) [] [.L 1],.I 2,.clo (.func 49) [] [.L 1],.I 3,.clo (.func 51) [] [.L 1],.I 1]))),.cm (.fn) [(616,17),(617,1)] [(17,616),(1,617)] [] [.d] [(616,.var [.clo (.func 48) [] [.L 617],.I 2,.clo (.func 49) [] [.L 617],.I 3,.clo (.func 51) [] [.L 617],.I 1]),(617,.var (Qd k))] (.I t),10] rfl (a5_ rfl rfl rfl (fun σ u w hf=>Stp.buildAny rfl rfl (QR e.n rfl) (Qo.es rfl) QnD rfl (by decide) (by decide) (QfV u rfl) rfl rfl (hf rfl)) (QvR _ _ _ _ q)) ?_
 rcases Qm h with⟨i,h⟩|⟨i,h⟩
 ·refine Qa e [.T,2,.A (QdB (Qe6.mk 1 0)),2,.O 2 (.var (QdB (Qe6.mk 1 0))),5,.K [2,3] [2]] rfl (a3_ i rfl rfl) ?_
  cases h
  exact AK.done (ex_ [_,_] (an_ (an_ (ex_ _ (ex_ _ (an_ rfl (an_ rfl (Or.inl (an_ (Qo.ag rfl) (an_ (Qo.sz rfl) rfl))))))) (an_ rfl tt_)) (gives tt_)))
 obtain⟨p,s,h⟩:=Qb h
 refine Qa e [.F,5,.A (Qd k),.o (.C1 (.tup [.I p.1,.I p.2])),13] rfl (a3_ i rfl (QnH _ s)) ?_
 rcases Qm h with⟨j,h⟩|⟨j,h⟩
 ·refine Qa e [.T,3,.A (QdB (Qe6.mk 2 p.1)),2,.O 2 (.var (QdB (Qe6.mk 2 p.1))),5,.K [2,3] [2]] rfl (a3_ j rfl rfl) ?_
  cases h
  exact AK.done (ex_ [_,_] (an_ (an_ (ex_ _ (ex_ _ (an_ rfl (an_ rfl (Or.inl (an_ (Qo.ag rfl) (an_ (Qo.sz rfl) rfl))))))) (an_ rfl tt_)) (gives tt_)))
 obtain⟨f,l,h⟩:=Qb h
 refine Qa e [.F,8,.cm (.fn) [(616,1)] [(1,616)] [] [.d,.d] [(616,.var (Qd k))] (.tup [.I f.1,.I f.2]),13] rfl (a2_ j (QoR _ _ l)) ?_
 rcases Qm h with⟨a,h⟩|⟨a,h⟩
 ·refine Qa e [.T,3,.A (QdB (Qe6.mk 3 f.1)),2,.O 2 (.var (QdB (Qe6.mk 3 f.1))),5,.K [2,3] [2]] rfl (a3_ a rfl rfl) ?_
  cases h
  exact AK.done (ex_ [_,_] (an_ (an_ (ex_ _ (ex_ _ (an_ rfl (an_ rfl (Or.inl (an_ (Qo.ag rfl) (an_ (Qo.sz rfl) rfl))))))) (an_ rfl tt_)) (gives tt_)))
 obtain⟨g,m,h⟩:=Qb h
 refine Qa e [.F,8,.cm (.fn) [(616,1)] [(1,616)] [] [.d,.d] [(616,.var (Qd k))] (.tup [.I g.1,.I g.2]),13] rfl (a2_ a (Qpz _ _ m)) ?_
 refine bg_ h (fun b h=>Qa e [.T,3,.A (QdB (Qe6.mk 4 g.1)),2,.O 2 (.var (QdB (Qe6.mk 4 g.1))),5,.K [2,3] [2]] rfl (a3_ b rfl rfl) ?_) fun b h=>Qa e [.F,4,.A (QdB (Qe6.mk 0 0)),1,.O 2 (.var (QdB (Qe6.mk 0 0))),4,.K [2,3] [2]] rfl (a3_ b rfl rfl) ?_
 ·cases h
  exact AK.done (ex_ [_,_] (an_ (an_ (ex_ _ (ex_ _ (an_ rfl (an_ rfl (Or.inl (an_ (Qo.ag rfl) (an_ (Qo.sz rfl) rfl))))))) (an_ rfl tt_)) (gives tt_)))
 cases h
 exact AK.done (ex_ [_,_] (an_ (an_ (ex_ _ (ex_ _ (an_ rfl (an_ rfl (Or.inl (an_ (Qo.ag rfl) (an_ (Qo.sz rfl) rfl))))))) (an_ rfl tt_)) (gives tt_)))
def QqK (a:QBg)(b:Int):Option Bool:=
 (QfJ a).bind fun c=>
 bif (!c)then
 some true
 else
 bif (decide (0<(a.length:Int)))then
 (idx a (w64 ((a.length:Int)-1))).bind fun d=>
 some (decide (b<=d.1))
 else
 some false
def Qjv (b:Int)(a:Bool):Option (Int⊕(Unit⊕Unit)):=
 bif a then
 some (.inr (.inl ()))
 else
 some (.inl (w64 (b+1)))
def Qjw (e:QMk)(f:Qn)(a:Int):Option (Int⊕(Unit⊕Unit)):=
 bif (decide (a<(e.length:Int)))then
 (idx e a).bind fun g=>
 (idx f.Places a).bind fun b=>
 (QaJ f.Colours b.Colour).bind fun c=>
 (QqK g c).bind (fun d=>Qjv a d)
 else
 some (.inr (.inr ()))
def QqL : Option Bool:=
 some false
def QqM : Option Bool:=
 some true
def QmF (a:Qn)(b:QMk):Option Bool:=
 bif ((b.length:Int) != (a.Places.length:Int))then
 some false
 else
 (Qz (fun st=>Qjw b a st) 0).bind (Sum.elim (fun q=>QqL) (fun q=>QqM))
theorem QwT (s k){r}(h:QmF s k=some r):Qc prog 24 [.agg (Qd s),.sl 1 (k.map Qs)] [] (Gives (.b r) []):=by
 refine wk_ 50 func24 fun C f=>?_
 refine Qa f [10,.o (.ln k.length),2,.o (.ln s.Places.length),3] rfl (a2_ Qf Qf) ?_
 refine bg_ h (fun l h=>Qa f [.T,7,.K [4] []] rfl (a1_ l) ?_) fun l h=>Qa f [.F,6,.o (.ln k.length),4,.K [2,14,15,16] [2]] rfl (a2_ l Qf) ?_
 ·cases h
  exact d1_ tt_
 obtain⟨z,t,h⟩:=Qb h
 refine AK.loop (body:=(fun st=>Qjw k s st)) (fun st σ=>σ=⟨[lk_ 2,(14,.sl 1 (k.map Qs)),(15,.I (k.length:Int)),(16,.I st)],[(2,.var (Qd s))]⟩) (Sum.elim (fun q e σ=>e=.ret/\σ=⟨[(4,.b false)],[]⟩) (fun q e σ=>e=.exit 0/\σ=⟨[],[]⟩)) t rfl ?_ ?_
 ·rintro A o σ rfl h
  refine tg_ f [6] ?_
  rcases Qm h with⟨m,h⟩|⟨m,h⟩
  ·obtain⟨B,D,h⟩:=Qb h
   obtain⟨E,u,h⟩:=Qb h
   obtain⟨G,v,h⟩:=Qb h
   refine Qa f [.T,7,.o (.row (Qs B)),6,.K [2,5,6,14,15,16] [2]] rfl (a2_ m (QJ D)) ?_
   refine AK.draw2 Qo f mixed [.N,.N,.N,.N,.N,.a (.row (QC E)) none false,.N,.N,.a (.C2 (.I G)) none false,.N] [] [] [2,6,7,14,15,16] [2] rfl rfl rfl ⟨⟨tt_,(QJ u)⟩,(Qh3 _ _ v)⟩ rfl (by kernel_rfl) rfl rfl rfl ?_
   refine tg_ f [2] ?_
   obtain⟨p,w,h⟩:=Qb h
   replace h:Qjv A p=some o:=h
   refine AK.meetX (fun σ=>σ=⟨[lk_ 2,(14,.sl 1 (k.map Qs)),(15,.I (k.length:Int)),(16,.I A),(48,.b p)],[(2,.var (Qd s))]⟩) ?_ ?_
   ·replace h:=w
    obtain⟨H,x,h⟩:=Qb h
    refine Qa f [2,.o (.C1 (.b H)),2] rfl (a1_ (Qm4 _ x)) ?_
    refine bg_ h (fun g h=>Qa f [.S 33 (.b true),16,.K [2,14,15,16,48] [2]] rfl (tc_ g) ?_) fun g h=>Qa f [.S 33 (.b false),1,.o (.ln B.length),2] rfl ⟨(tc_ g),Qf⟩ ?_
    ·cases h
     exact mt_
    rcases Qm h with⟨i,h⟩|⟨i,h⟩
    ·obtain⟨J,y,h⟩:=Qb h
     refine Qa f [.S 37 (.b true),2,.o (.ln B.length),1,.o (.row (Qp J)),7,.K [2,14,15,16,48] [2]] rfl ⟨⟨(tc_ i),Qf⟩,(QJ y)⟩ ?_
     cases h
     exact mt_
    refine Qa f [.S 37 (.b false),12,.K [2,14,15,16,48] [2]] rfl (tc_ i) ?_
    cases h
    exact mt_
   rintro σ rfl
   replace h:Qjv A p=some o:=h
   refine tg_ f [1] ?_
   refine bq_ f h [.T,8,.K [4] []] rfl (fun j h=>?_) [.F,7,.K [2,14,15,16] [2]] rfl fun j h=>?_
   ·cases h
    exact Qah rfl (an_ rfl rfl)
   cases h
   exact QY rfl rfl
  refine Qa f [.F,2,.K [] []] rfl (a1_ m) ?_
  cases h
  exact QZ rfl (an_ rfl rfl)
 rcases z with(_ | _)
 ·replace h:QqL=some r:=h
  rintro e σ ⟨rfl,rfl⟩
  refine tg_ f [2] ?_
  cases h
  exact d1_ tt_
 replace h:QqM=some r:=h
 rintro e σ ⟨rfl,rfl⟩
 refine tg_ f [8] ?_
 cases h
 exact d1_ tt_
def QmG (a:(Int×Qe6))(c:Qn)(d:QMk):Option Bool:=
 bif (a.1 != 0)then
 some true
 else
 (QmF c d).bind fun b=>
 some (!b)
def Qjx (d:Qn)(a:Int)(b:Int):Option ((Int×Int)⊕Int):=
 bif (decide (b<(d.Tasks.length:Int)))then
 (idx d.Tasks b).bind fun c=>
 (Qds d b).bind fun e=>
 some (.inl ((w64 (a+(w64 (e*(w64 (1+(w64 ((c.Ins.length:Int)*(c.Outs.length:Int))))))))),(w64 (b+1))))
 else
 some (.inr a)
def QqN (a:Int):Option Bool:=
 some (decide (a<=600))
def QgN (b:Qn)(a:Bool):Option Bool:=
 bif a then
 some false
 else
 (Qz (fun st=>Qjx b st.1 st.2) (0,0)).bind (fun q=>QqN q)
def QhE (a:Qn)(d:QMk):Option Bool:=
 (Qle a).bind fun e=>
 (Qnt d).bind fun f=>
 bif ((!e)||((!f)||(decide (12<(a.Tasks.length:Int)))))then
 some false
 else
 (QfK a).bind fun b=>
 (QmG b a d).bind (fun c=>QgN a c)
theorem QwU (g M){r}(h:QhE g M=some r):Qc prog 8 [.agg (Qd g),.sl 1 (M.map Qs)] [] (Gives (.b r) []):=by
 refine wk_ 69 func8 fun C f=>?_
 obtain⟨z,P,h⟩:=Qb h
 obtain⟨A,U,h⟩:=Qb h
 refine Qa f [8,.A (Qd g),.o (.C1 (.b z)),6,.o (.C1 (.b A)),5] rfl (a3_ rfl (QxL _ P) (QxM _ U)) ?_
 refine AK.meetX (fun σ=>σ=⟨[(1,.sl 1 (M.map Qs)),lk_ 2,(27,.b ((!z)||((!A)||(decide (12<(g.Tasks.length:Int))))))],[(2,.var (Qd g))]⟩) ?_ ?_
 ·refine tg_ f [4] ?_
  rcases QE (!z)with i | i
  ·refine Qa f [.S 18 (.b true),10,.S 27 (.b ((!z)||((!A)||(decide (12<(g.Tasks.length:Int)))))),.K [1,2,27] [2]] rfl ⟨(tc_ i),(congrArg V.b (orT i rfl))⟩ ?_
   exact mt_
  refine Qa f [.S 18 (.b false),4] rfl (tc_ i) ?_
  rcases QE (!A)with j | j
  ·refine Qa f [.S 22 (.b true),6,.S 27 (.b ((!z)||((!A)||(decide (12<(g.Tasks.length:Int)))))),.K [1,2,27] [2]] rfl ⟨(tc_ j),(congrArg V.b (orF i (orT j rfl)))⟩ ?_
   exact mt_
  refine Qa f [.S 22 (.b false),2,.o (.ln g.Tasks.length),3,.S 27 (.b ((!z)||((!A)||(decide (12<(g.Tasks.length:Int)))))),.K [1,2,27] [2]] rfl ⟨⟨(tc_ j),Qf⟩,(congrArg V.b (orF i (orF j rfl)))⟩ ?_
  exact mt_
 rintro σ rfl
 refine tg_ f [1] ?_
 rcases Qm h with⟨k,h⟩|⟨k,h⟩
 ·refine Qa f [.T,7] rfl (a1_ k) ?_
  cases h
  exact d1_ tt_
 obtain⟨x,B,h⟩:=Qb h
 refine Qa f [.F,4,.A (Qd g),.o (.C1 (.tup [.agg (QdB x.2),.I x.1])),5,.O 7 (.var (QdB x.2)),5] rfl (a4_ k rfl (QxN _ B) rfl) ?_
 obtain⟨y,D,h⟩:=Qb h
 replace h:QgN g y=some r:=h
 refine AK.meetX (fun σ=>σ=⟨[lk_ 2,(40,.b y)],[(2,.var (Qd g))]⟩) ?_ ?_
 ·replace h:=D
  refine tg_ f [4] ?_
  rcases Qm h with⟨l,h⟩|⟨l,h⟩
  ·refine Qa f [.S 35 (.b true),6,.K [2,40] [2]] rfl (tc_ l) ?_
   cases h
   exact mt_
  obtain⟨W,E,h⟩:=Qb h
  refine Qa f [.S 35 (.b false),.A (Qd g),1,.o (.C2 (.b W)),3,.K [2,40] [2]] rfl ⟨⟨(tc_ l),rfl⟩,(QwT _ _ E)⟩ ?_
  cases h
  exact mt_
 rintro σ rfl
 replace h:QgN g y=some r:=h
 refine tg_ f [1] ?_
 refine bq_ f h [.T,7,.K [4] []] rfl (fun p h=>?_) [.F,14,.K [2,9,10] [2]] rfl fun p h=>?_
 ·cases h
  exact d1_ tt_
 obtain⟨w,G,h⟩:=Qb h
 refine AK.loop (body:=(fun st=>Qjx g st.1 st.2)) (fun st σ=>σ=⟨[lk_ 2,(9,.I st.1),(10,.I st.2)],[(2,.var (Qd g))]⟩) (fun q e σ=>e=.exit 0/\σ=⟨[(9,.I q)],[]⟩) G rfl ?_ ?_
 ·rintro ⟨L,Y⟩ o σ rfl h
  refine Qa f [6,.o (.ln g.Tasks.length),3] rfl (a1_ Qf) ?_
  rcases Qm h with⟨t,h⟩|⟨t,h⟩
  ·obtain⟨u,H,h⟩:=Qb h
   obtain⟨X,J,h⟩:=Qb h
   refine Qa f [.T,9,.o (.row (Qj u)),.A (Qj u),2,.O 11 (.var (Qj u)),2,.K [2,9,10,11] [2,11]] rfl (a4_ t (QJ H) rfl rfl) ?_
   refine AK.draw2 Qo f mixed [.N,.a .no (some ([],.agg (Qd g))) false,.N,.a (.C2 (.I X)) none false,.N,.N,.a (.ln u.Ins.length) none false,.N,.N,.a (.ln u.Outs.length) none false,.N,.N,.N,.N,.m .s] [] [] [2,9,10] [2] rfl rfl rfl ⟨⟨⟨⟨tt_,rfl⟩,(Qpx _ _ J)⟩,Qf⟩,Qf⟩ rfl (by kernel_rfl) rfl rfl rfl ?_
   refine tg_ f [7,.K [2,9,10] [2]] ?_
   cases h
   exact QY rfl rfl
  refine Qa f [.F,2,.K [9] []] rfl (a1_ t) ?_
  cases h
  exact QZ rfl (an_ rfl rfl)
 replace h:QqN w=some r:=h
 rintro e σ ⟨rfl,rfl⟩
 refine tg_ f [10] ?_
 cases h
 exact d1_ tt_
def Qj3 (b:Int)(a:Int)(c:(List Int)):Option ((Int×(List Int))⊕(List Int)):=
 bif (decide (a<b))then
 (chk (decide (c.length+([a]:List Int).length<=4294967296))).bind fun _=>
 some (.inl ((w64 (a+1)),(c++([a]:List Int))))
 else
 some (.inr c)
def QgO (a:QLL):Option QLL:=
 some a
def QnJ (b:Int)(a:Int)(c:QLL):Option ((Int×QLL)⊕QLL):=
 bif (decide (a<b))then
 (chk (decide (c.length+([([a]:List Int)]:List (List Int)).length<=4294967296))).bind fun _=>
 some (.inl ((w64 (a+1)),(c++([([a]:List Int)]:List (List Int)))))
 else
 some (.inr c)
def Qj4 (a:QLL):Option QLL:=
 QgO a
def QnK (b:Int)(a:Int)(c:Int):Option ((Int×Int)⊕Int):=
 bif (decide (c<b))then
 some (.inl ((w64 (2*a)),(w64 (c+1))))
 else
 some (.inr a)
def Qj5 (a:Int)(b:Int)(c:(List Int)):Option ((Int×Int×(List Int))⊕(List Int)):=
 some (.inl ((w64 (Int.tdiv a 2)),(w64 (b+1)),c))
def QnL (c:Int)(d:Int)(a:Int)(b:(List Int)):Option ((Int×Int×(List Int))⊕(List Int)):=
 bif (decide (a<c))then
 bif ((Int.tmod d 2)==1)then
 (chk (decide (b.length+([a]:List Int).length<=4294967296))).bind fun _=>
 Qj5 d a (b++([a]:List Int))
 else
 Qj5 d a b
 else
 some (.inr b)
def QnM (a:QLL)(c:Int)(b:(List Int)):Option ((Int×QLL)⊕QLL):=
 (chk (decide (a.length+([b]:List (List Int)).length<=4294967296))).bind fun _=>
 some (.inl ((w64 (c+1)),(a++([b]:List (List Int)))))
def QnN (a:Int)(b:Int)(c:Int)(d:QLL):Option ((Int×QLL)⊕QLL):=
 bif (decide (c<a))then
 (Qz (fun st=>QnL b st.1 st.2.1 st.2.2) (c,0,([]:List Int))).bind (fun q=>QnM d c q)
 else
 some (.inr d)
def QiT (a:QLL):Option QLL:=
 QgO a
def QmX (a:Int)(b:Int):Option QLL:=
 (Qz (fun st=>QnN b a st.1 st.2) (1,([]:List (List Int)))).bind (fun q=>QiT q)
def QiU (a:Int)(b:Int)(c:(List Int)):Option QLL:=
 bif (a==1)then
 some ([c]:List (List Int))
 else
 bif (a==2)then
 (Qz (fun st=>QnJ b st.1 st.2) (0,([]:List (List Int)))).bind (fun q=>Qj4 q)
 else
 bif (a==3)then
 (Qz (fun st=>QnK b st.1 st.2) (1,0)).bind (fun q=>QmX b q)
 else
 QgO ([]:List (List Int))
def Qdf (b:Int)(a:Int):Option QLL:=
 bif ((decide (a<0))||((decide (16<a))||((b==3)&&(decide (4<a)))))then
 some ([]:List (List Int))
 else
 (Qz (fun st=>Qj3 a st.1 st.2) (0,([]:List Int))).bind (fun q=>QiU b a q)
theorem Qj6 (c a){r}(h:Qdf c a=some r):Qc prog 36 [.I c,.I a] [] (Gives (.own 600 r.length) [(600,.arr 1 (r.map Qu))]):=by
 refine wk_ 89 func36 fun C d=>?_
 unfold Qdf at h
 refine tg_ d [7] ?_
 refine AK.meetX (fun σ=>σ=⟨[(0,.I c),(1,.I a),(28,.b ((decide (a<0))||((decide (16<a))||((c==3)&&(decide (4<a))))))],[]⟩) ?_ ?_
 ·refine tg_ d [4] ?_
  rcases QE (decide (a<0))with i | i
  ·refine Qa d [.S 17 (.b true),12,.S 28 (.b ((decide (a<0))||((decide (16<a))||((c==3)&&(decide (4<a)))))),.K [0,1,28] []] rfl ⟨(tc_ i),(congrArg V.b (orT i rfl))⟩ ?_
   exact mt_
  refine Qa d [.S 17 (.b false),4] rfl (tc_ i) ?_
  rcases QE (decide (16<a))with j | j
  ·refine Qa d [.S 21 (.b true),8,.S 28 (.b ((decide (a<0))||((decide (16<a))||((c==3)&&(decide (4<a)))))),.K [0,1,28] []] rfl ⟨(tc_ j),(congrArg V.b (orF i (orT j rfl)))⟩ ?_
   exact mt_
  refine Qa d [.S 21 (.b false),3] rfl (tc_ j) ?_
  rcases QE (c==3)with k | k
  ·refine Qa d [.S 24 (.b true),5,.S 28 (.b ((decide (a<0))||((decide (16<a))||((c==3)&&(decide (4<a)))))),.K [0,1,28] []] rfl ⟨(tc_ k),(congrArg V.b (orF i (orF j (Qaq k rfl))))⟩ ?_
   exact mt_
  refine Qa d [.S 24 (.b false),5,.S 28 (.b ((decide (a<0))||((decide (16<a))||((c==3)&&(decide (4<a)))))),.K [0,1,28] []] rfl ⟨(tc_ k),(congrArg V.b (orF i (orF j (Qa4 k rfl))))⟩ ?_
  exact mt_
 rintro σ rfl
 refine tg_ d [1] ?_
 refine bg_ h (fun J h=>Qa d [.T,7,.adopt 4 600 1,.O 600 (.arr 1 (([]:List (List Int)).map Qu)),.S 4 (.own 600 ([]:List (List Int)).length),.K [4] [600]] rfl (a3_ J rfl rfl) ?_) fun J h=>Qa d [.F,19,.adopt 6 34 1,.O 34 (.arr 1 (([]:List Int).map Qe)),.S 6 (.own 34 ([]:List Int).length),.K [0,1,5,6,7] [34]] rfl (a3_ J rfl (congrArg (fun n=>V.own 34 n) (by simp))) ?_
 ·cases h
  exact d1_ r1_
 obtain⟨B,M,h⟩:=Qb h
 refine AK.loop (body:=(fun st=>Qj3 a st.1 st.2)) (fun st σ=>σ=⟨[(0,.I c),(1,.I a),(5,.lit (.slice none 0 0)),(6,.own 34 st.2.length),(7,.I st.1)],[(34,.arr 1 (st.2.map Qe))]⟩) (fun q e σ=>e=.exit 0/\σ=⟨[(0,.I c),(1,.I a),(5,.lit (.slice none 0 0)),(6,.own 34 q.length)],[(34,.arr 1 (q.map Qe))]⟩) M rfl ?_ ?_
 ·rintro ⟨L,N⟩ o σ rfl h
  refine tg_ d [8] ?_
  rcases Qm h with⟨l,h⟩|⟨l,h⟩
  ·obtain⟨P,h⟩:=QaV h
   refine Qa d [.T,7,.v (.bd []) [] (.sl 1 (([L]:List Int).map Qe)),.app ((N++([L]:List Int)).map Qe) (N++([L]:List Int)).length,9,.K [0,1,5,6,7] [34]] rfl (a3_ l rfl ⟨Qf,Qcw P Qf,Qa2,Qdc Qf⟩) ?_
   cases h
   exact QY rfl rfl
  refine Qa d [.F,2,.K [0,1,5,6] [34]] rfl (a1_ l) ?_
  cases h
  exact QZ rfl (an_ rfl rfl)
 replace h:QiU c a B=some r:=h
 rintro e σ ⟨rfl,rfl⟩
 refine tg_ d [2] ?_
 refine AK.meet (fun σ=>∃D:QLL,σ=⟨[(5,.own 604 D.length)],[(604,.arr 1 (D.map Qu))]⟩/\QgO D=some r) ?_ ?_
 ·refine tg_ d [12] ?_
  refine bg_ h (fun m h=>Qa d [.T,3,.frz 34 (B.map Qe) [6,41] [],1,.O 42 (.arr 1 (([B]:List (List Int)).map Qu)),.S 42 (.own 42 ([B]:List (List Int)).length),6,.K [4] [42],.ren 42 600,.K [4] [600]] rfl (a4_ m (a2_ (QeC Qf) (QeC Qf)) rfl rfl) ?_) fun m h=>Qa d [.F,6] rfl (a1_ m) ?_
  ·cases h
   exact d1_ r1_
  refine bg_ h (fun p h=>Qa d [.T,6,.adopt 5 50 1,.O 50 (.arr 1 (([]:List (List Int)).map Qu)),.S 5 (.own 50 ([]:List (List Int)).length),.K [1,5,8] [50]] rfl (a3_ p rfl (congrArg (fun n=>V.own 50 n) (by simp))) ?_) fun p h=>Qa d [.F,6] rfl (a1_ p) ?_
  ·obtain⟨a5,U,h⟩:=Qb h
   refine AK.loop (body:=(fun st=>QnJ a st.1 st.2)) (fun st σ=>σ=⟨[(1,.I a),(5,.own 50 st.2.length),(8,.I st.1)],[(50,.arr 1 (st.2.map Qu))]⟩) (fun q e σ=>e=.exit 3/\σ=⟨[(5,.own 50 q.length)],[(50,.arr 1 (q.map Qu))]⟩) U rfl ?_ ?_
   ·rintro ⟨E,W⟩ o σ rfl h
    refine tg_ d [8] ?_
    rcases Qm h with⟨s,h⟩|⟨s,h⟩
    ·obtain⟨X,h⟩:=QaV h
     refine Qa d [.T,7,.v (.bd []) [] (.sl 1 (([E]:List Int).map Qe)),.v (.bd []) [] (.sl 1 (([([E]:List Int)]:List (List Int)).map Qu)),.app ((W++([([E]:List Int)]:List (List Int))).map Qu) (W++([([E]:List Int)]:List (List Int))).length,9,.K [1,5,8] [50]] rfl (a4_ s rfl rfl ⟨Qf,Qcw X Qf,Qa2,Qdc Qf⟩) ?_
     cases h
     exact QY rfl rfl
    refine Qa d [.F,2,.K [5] [50]] rfl (a1_ s) ?_
    cases h
    exact QZ rfl (an_ rfl rfl)
   replace h:Qj4 a5=some r:=h
   unfold Qj4 at h
   rintro e σ ⟨rfl,rfl⟩
   refine tg_ d [2,.ren 50 604,.K [5] [604]] ?_
   exact AK.met (ex_ _ (an_ rfl h))
  refine bg_ h (fun t h=>Qa d [.T,12,.K [1,5,9,10] []] rfl (a1_ t) ?_) fun t h=>Qa d [.F,2,.adopt 5 604 1,.O 604 (.arr 1 (([]:List (List Int)).map Qu)),.S 5 (.own 604 ([]:List (List Int)).length),.K [5] [604]] rfl (a3_ t rfl (congrArg (fun n=>V.own 604 n) (by simp))) ?_
  ·obtain⟨f,Y,h⟩:=Qb h
   refine AK.loop (body:=(fun st=>QnK a st.1 st.2)) (fun st σ=>σ=⟨[(1,.I a),(5,.lit (.slice none 0 0)),(9,.I st.1),(10,.I st.2)],[]⟩) (fun q e σ=>e=.exit 5/\σ=⟨[(1,.I a),(5,.lit (.slice none 0 0)),(9,.I q)],[]⟩) Y rfl ?_ ?_
   ·rintro ⟨a6,a8⟩ o σ rfl h
    refine tg_ d [8] ?_
    refine bq_ d h [.T,16,.K [1,5,9,10] []] rfl (fun u h=>?_) [.F,2,.K [1,5,9] []] rfl fun u h=>?_
    ·cases h
     exact QY rfl rfl
    cases h
    exact QZ rfl (an_ rfl rfl)
   replace h:QmX a f=some r:=h
   rintro e σ ⟨rfl,rfl⟩
   refine Qa d [8,.adopt 5 84 1,.O 84 (.arr 1 (([]:List (List Int)).map Qu)),.S 5 (.own 84 ([]:List (List Int)).length),.K [1,5,9,11] [84]] rfl (a2_ rfl (congrArg (fun n=>V.own 84 n) (by simp))) ?_
   obtain⟨a7,Z,h⟩:=Qb h
   refine AK.loop (body:=(fun st=>QnN f a st.1 st.2)) (fun st σ=>σ=⟨[(1,.I a),(5,.own 84 st.2.length),(9,.I f),(11,.I st.1)],[(84,.arr 1 (st.2.map Qu))]⟩) (fun q e σ=>e=.exit 7/\σ=⟨[(5,.own 84 q.length)],[(84,.arr 1 (q.map Qu))]⟩) Z rfl ?_ ?_
   ·rintro ⟨G,g⟩ o σ rfl h
    refine tg_ d [8] ?_
    refine bg_ h (fun w h=>Qa d [.T,22,.adopt 12 78 1,.O 78 (.arr 1 (([]:List Int).map Qe)),.S 12 (.own 78 ([]:List Int).length),.K [1,5,9,11,12,13,14] [78,84]] rfl (a3_ w rfl (congrArg (fun n=>V.own 78 n) (by simp))) ?_) fun w h=>Qa d [.F,2,.K [5] [84]] rfl (a1_ w) ?_
    ·obtain⟨x,a0,h⟩:=Qb h
     refine AK.loop (body:=(fun st=>QnL a st.1 st.2.1 st.2.2)) (fun st σ=>σ=⟨[(1,.I a),(5,.own 84 g.length),(9,.I f),(11,.I G),(12,.own 78 st.2.2.length),(13,.I st.1),(14,.I st.2.1)],[(78,.arr 1 (st.2.2.map Qe)),(84,.arr 1 (g.map Qu))]⟩) (fun q e σ=>e=.exit 9/\σ=⟨[(1,.I a),(5,.own 84 g.length),(9,.I f),(11,.I G),(12,.own 78 q.length)],[(78,.arr 1 (q.map Qe)),(84,.arr 1 (g.map Qu))]⟩) a0 rfl ?_ ?_
     ·rintro ⟨a1,y,a2⟩ o σ rfl h
      refine tg_ d [8] ?_
      refine bq_ d h [.T,4] rfl (fun z h=>?_) [.F,2,.K [1,5,9,11,12] [78,84]] rfl fun z h=>?_
      ·refine AK.meet (fun σ=>∃H:(List Int),σ=⟨[(1,.I a),(5,.own 84 g.length),(9,.I f),(11,.I G),(12,.own 78 H.length),(13,.I a1),(14,.I y)],[(78,.arr 1 (H.map Qe)),(84,.arr 1 (g.map Qu))]⟩/\Qj5 a1 y H=some o) ?_ ?_
       ·refine Qa d [7] rfl (a1_ (by decide)) ?_
        rcases Qm h with⟨A,h⟩|⟨A,h⟩
        ·obtain⟨a3,h⟩:=QaV h
         refine Qa d [.T,3,.v (.bd []) [] (.sl 1 (([y]:List Int).map Qe)),.app ((a2++([y]:List Int)).map Qe) (a2++([y]:List Int)).length,2,.K [1,5,9,11,12,13,14] [78,84]] rfl (a3_ A rfl ⟨Qf,Qcw a3 Qf,Qa2,Qdc Qf⟩) ?_
         exact AK.met (ex_ _ (an_ rfl h))
        refine Qa d [.F,1,.K [1,5,9,11,12,13,14] [78,84]] rfl (a1_ A) ?_
        exact AK.met (ex_ _ (an_ rfl h))
       rintro σ ⟨H,rfl,h⟩
       refine Qa d [12,.K [1,5,9,11,12,13,14] [78,84]] rfl (a1_ (by decide)) ?_
       cases h
       exact QY rfl rfl
      cases h
      exact QZ rfl (an_ rfl rfl)
     replace h:QnM g G x=some o:=h
     rintro e σ ⟨rfl,rfl⟩
     obtain⟨a4,h⟩:=QaV h
     refine Qa d [5,.frz 78 (x.map Qe) [12,85] [],.v (.bd []) [] (.sl 1 (([x]:List (List Int)).map Qu)),.app ((g++([x]:List (List Int))).map Qu) (g++([x]:List (List Int))).length,9,.K [1,5,9,11] [84]] rfl (a3_ (a2_ (QeC Qf) (QeC Qf)) rfl ⟨Qf,Qcw a4 Qf,Qa2,Qdc Qf⟩) ?_
     cases h
     exact QY rfl rfl
    cases h
    exact QZ rfl (an_ rfl rfl)
   replace h:QiT a7=some r:=h
   unfold QiT at h
   rintro e σ ⟨rfl,rfl⟩
   refine tg_ d [2,.ren 84 604,.K [5] [604]] ?_
   exact AK.met (ex_ _ (an_ rfl h))
  exact AK.met (ex_ _ (an_ rfl h))
 rintro σ ⟨D,rfl,h⟩
 refine tg_ d [7,.K [4] [604],.ren 604 600] ?_
 cases h
 exact d1_ r1_
def QhF (a:Int):Option Bool:=
 some (bif (decide (97<=a))then((decide (a<=122))||((decide (65<=a))&&(decide (a<=90))))else((decide (65<=a))&&(decide (a<=90))))
theorem Qoj (a){r}(h:QhF a=some r):Qc prog 190 [.i .u8 a] [] (Gives (.b r) []):=by
 refine wk_ 17 func190 fun C e=>?_
 unfold QhF at h
 refine tg_ e [6] ?_
 refine AK.meetX (fun σ=>σ=⟨[(2,.b (bif (decide (97<=a))then((decide (a<=122))||((decide (65<=a))&&(decide (a<=90))))else((decide (65<=a))&&(decide (a<=90)))))],[]⟩) ?_ ?_
 ·refine tg_ e [4] ?_
  rcases QE (decide (97<=a))with c | c
  ·refine Qa e [.S 5 (.b true),4] rfl (tc_ c) ?_
   rcases QE (decide (a<=122))with d | d
   ·refine Qa e [.S 9 (.b true),9,.S 2 (.b (bif (decide (97<=a))then((decide (a<=122))||((decide (65<=a))&&(decide (a<=90))))else((decide (65<=a))&&(decide (a<=90))))),.K [2] []] rfl ⟨(tc_ d),(congrArg V.b (QlM c (orT d rfl)))⟩ ?_
    exact mt_
   refine Qa e [.S 9 (.b false),3] rfl (tc_ d) ?_
   rcases QE (decide (65<=a))with f | f
   ·refine Qa e [.S 12 (.b true),6,.S 2 (.b (bif (decide (97<=a))then((decide (a<=122))||((decide (65<=a))&&(decide (a<=90))))else((decide (65<=a))&&(decide (a<=90))))),.K [2] []] rfl ⟨(tc_ f),(congrArg V.b (QlM c (orF d (Qaq f rfl))))⟩ ?_
    exact mt_
   refine Qa e [.S 12 (.b false),6,.S 2 (.b (bif (decide (97<=a))then((decide (a<=122))||((decide (65<=a))&&(decide (a<=90))))else((decide (65<=a))&&(decide (a<=90))))),.K [2] []] rfl ⟨(tc_ f),(congrArg V.b (QlM c (orF d (Qa4 f rfl))))⟩ ?_
   exact mt_
  refine Qa e [.S 5 (.b false),7] rfl (tc_ c) ?_
  rcases QE (decide (65<=a))with g | g
  ·refine Qa e [.S 12 (.b true),6,.S 2 (.b (bif (decide (97<=a))then((decide (a<=122))||((decide (65<=a))&&(decide (a<=90))))else((decide (65<=a))&&(decide (a<=90))))),.K [2] []] rfl ⟨(tc_ g),(congrArg V.b (Qq9 c (Qaq g rfl)))⟩ ?_
   exact mt_
  refine Qa e [.S 12 (.b false),6,.S 2 (.b (bif (decide (97<=a))then((decide (a<=122))||((decide (65<=a))&&(decide (a<=90))))else((decide (65<=a))&&(decide (a<=90))))),.K [2] []] rfl ⟨(tc_ g),(congrArg V.b (Qq9 c (Qa4 g rfl)))⟩ ?_
  exact mt_
 rintro σ rfl
 refine tg_ e [2] ?_
 cases h
 exact d1_ tt_
def Qn0 (a:Int):Option Bool:=
 some ((decide (48<=a))&&(decide (a<=57)))
theorem QvY (c){r}(h:Qn0 c=some r):Qc prog 191 [.i .u8 c] [] (Gives (.b r) []):=by
 refine wk_ 9 func191 fun C d=>?_
 refine tg_ d [6] ?_
 refine AK.meetX (fun σ=>σ=⟨[(2,.b ((decide (48<=c))&&(decide (c<=57))))],[]⟩) ?_ ?_
 ·refine tg_ d [4] ?_
  rcases QE (decide (48<=c))with a | a
  ·refine Qa d [.S 5 (.b true),5,.S 2 (.b ((decide (48<=c))&&(decide (c<=57)))),.K [2] []] rfl ⟨(tc_ a),(congrArg V.b (Qaq a rfl))⟩ ?_
   exact mt_
  refine Qa d [.S 5 (.b false),5,.S 2 (.b ((decide (48<=c))&&(decide (c<=57)))),.K [2] []] rfl ⟨(tc_ a),(congrArg V.b (Qa4 a rfl))⟩ ?_
  exact mt_
 rintro σ rfl
 refine tg_ d [2] ?_
 cases h
 exact d1_ tt_
def QmH (a:ByteArray):Option Bool:=
 bif (decide ((a.size:Int)<1))then
 some true
 else
 bif (decide (32<(a.size:Int)))then
 some true
 else
 (sidx a 0).bind fun b=>
 (QhF b).bind fun c=>
 some (!c)
def QqO (b:ByteArray)(a:Int):Option Bool:=
 (sidx b a).bind fun c=>
 (QhF c).bind fun d=>
 bif (!d)then
 (sidx b a).bind fun e=>
 (Qn0 e).bind fun f=>
 bif (!f)then
 (sidx b a).bind fun g=>
 some (g != 95)
 else
 some false
 else
 some false
def Qjy (a:Int)(b:Bool):Option (Int⊕(Unit⊕Unit)):=
 bif b then
 some (.inr (.inl ()))
 else
 some (.inl (w64 (a+1)))
def QgP (c:ByteArray)(a:Int):Option (Int⊕(Unit⊕Unit)):=
 bif (decide (a<(c.size:Int)))then
 (QqO c a).bind (fun b=>Qjy a b)
 else
 some (.inr (.inr ()))
def QqP : Option Bool:=
 some false
def QqQ : Option Bool:=
 some true
def Qjz (a:ByteArray)(b:Bool):Option Bool:=
 bif b then
 some false
 else
 (Qz (fun st=>QgP a st) 0).bind (Sum.elim (fun q=>QqP) (fun q=>QqQ))
def Qj7 (a:ByteArray):Option Bool:=
 (QmH a).bind (fun b=>Qjz a b)
theorem QqR (l){r}(h:Qj7 l=some r):Qc prog 137 [.s l] [] (Gives (.b r) []):=by
 refine wk_ 42 func137 fun C a=>?_
 refine tg_ a [7] ?_
 obtain⟨D,E,h⟩:=Qb h
 replace h:Qjz l D=some r:=h
 refine AK.meetX (fun σ=>σ=⟨[(0,.s l),(17,.b D)],[]⟩) ?_ ?_
 ·replace h:=E
  refine tg_ a [5] ?_
  refine bg_ h (fun m h=>Qa a [.S 7 (.b true),11,.K [0,17] []] rfl (tc_ m) ?_) fun m h=>Qa a [.S 7 (.b false),5] rfl (tc_ m) ?_
  ·cases h
   exact mt_
  rcases Qm h with⟨p,h⟩|⟨p,h⟩
  ·refine Qa a [.S 12 (.b true),6,.K [0,17] []] rfl (tc_ p) ?_
   cases h
   exact mt_
  obtain⟨U,G,h⟩:=Qb h
  obtain⟨W,H,h⟩:=Qb h
  refine Qa a [.S 12 (.b false),1,.o (.num U),.o (.C1 (.b W)),3,.K [0,17] []] rfl ⟨⟨(tc_ p),G⟩,(Qoj _ H)⟩ ?_
  cases h
  exact mt_
 rintro σ rfl
 replace h:Qjz l D=some r:=h
 refine tg_ a [1] ?_
 refine bq_ a h [.T,7,.K [2] []] rfl (fun f h=>?_) [.F,9,.K [0,3] []] rfl fun f h=>?_
 ·cases h
  exact d1_ tt_
 obtain⟨J,v,h⟩:=Qb h
 refine AK.loop (body:=(fun st=>QgP l st)) (fun st σ=>σ=⟨[(0,.s l),(3,.I st)],[]⟩) (Sum.elim (fun q e σ=>e=.ret/\σ=⟨[(2,.b false)],[]⟩) (fun q e σ=>e=.exit 0/\σ=⟨[],[]⟩)) v rfl ?_ ?_
 ·rintro t o σ rfl h
  refine tg_ a [9] ?_
  refine bq_ a h [.T,5] rfl (fun g h=>?_) [.F,2,.K [] []] rfl fun g h=>?_
  ·obtain⟨u,w,h⟩:=Qb h
   replace h:Qjy t u=some o:=h
   refine AK.meetX (fun σ=>σ=⟨[(0,.s l),(3,.I t),(41,.b u)],[]⟩) ?_ ?_
   ·replace h:=w
    obtain⟨L,x,h⟩:=Qb h
    obtain⟨M,y,h⟩:=Qb h
    refine Qa a [3,.o (.num L),.o (.C1 (.b M)),2] rfl (a2_ x (Qoj _ y)) ?_
    rcases Qm h with⟨i,h⟩|⟨i,h⟩
    ·obtain⟨N,z,h⟩:=Qb h
     obtain⟨O,A,h⟩:=Qb h
     refine Qa a [.S 29 (.b true),2,.o (.num N),.o (.C1 (.b O)),3] rfl ⟨⟨(tc_ i),z⟩,(QvY _ A)⟩ ?_
     rcases Qm h with⟨j,h⟩|⟨j,h⟩
     ·obtain⟨P,B,h⟩:=Qb h
      refine Qa a [.S 36 (.b true),2,.o (.num P),3,.K [0,3,41] []] rfl ⟨(tc_ j),B⟩ ?_
      cases h
      exact mt_
     refine Qa a [.S 36 (.b false),6,.K [0,3,41] []] rfl (tc_ j) ?_
     cases h
     exact mt_
    refine Qa a [.S 29 (.b false),13,.K [0,3,41] []] rfl (tc_ i) ?_
    cases h
    exact mt_
   rintro σ rfl
   replace h:Qjy t u=some o:=h
   refine tg_ a [1] ?_
   refine bq_ a h [.T,8,.K [2] []] rfl (fun k h=>?_) [.F,8,.K [0,3] []] rfl fun k h=>?_
   ·cases h
    exact Qah rfl (an_ rfl rfl)
   cases h
   exact QY rfl rfl
  cases h
  exact QZ rfl (an_ rfl rfl)
 rcases J with(_ | _)
 ·replace h:QqP=some r:=h
  rintro e σ ⟨rfl,rfl⟩
  refine tg_ a [2] ?_
  cases h
  exact d1_ tt_
 replace h:QqQ=some r:=h
 rintro e σ ⟨rfl,rfl⟩
 refine tg_ a [8] ?_
 cases h
 exact d1_ tt_
def QpA (a:Bool)(e:(List ByteArray))(b:Int)(f:Int):Option Bool:=
 bif a then
 (idx e b).bind fun c=>
 (idx e f).bind fun d=>
 some (!QbW c d)
 else
 some false
def Qik (b:Int)(a:Bool):Option ((Bool×Int)⊕Bool):=
 some (.inl (a,(w64 (b+1))))
def Qdw (d:Int)(e:(List ByteArray))(b:Bool)(a:Int):Option ((Bool×Int)⊕Bool):=
 bif (decide (a<d))then
 (QpA b e a d).bind (fun c=>Qik a c)
 else
 some (.inr b)
def QlW (b:Int)(a:Bool):Option (Int⊕(Unit⊕Unit)):=
 bif (!a)then
 some (.inr (.inl ()))
 else
 some (.inl (w64 (b+1)))
def QeH (b:(List ByteArray))(a:Int):Option (Int⊕(Unit⊕Unit)):=
 bif (decide (a<(b.length:Int)))then
 (idx b a).bind fun c=>
 (Qj7 c).bind fun d=>
 (Qz (fun st=>Qdw a b st.1 st.2) (d,0)).bind (fun q=>QlW a q)
 else
 some (.inr (.inr ()))
def QpB : Option Bool:=
 some false
def QpC : Option Bool:=
 some true
def QlC (a:(List ByteArray)):Option Bool:=
 (Qz (fun st=>QeH a st) 0).bind (Sum.elim (fun q=>QpB) (fun q=>QpC))
theorem QvZ (l){r}(h:QlC l=some r):Qc prog 138 [.sl 1 (l.map Qcx)] [] (Gives (.b r) []):=by
 refine wk_ 36 func138 fun C f=>?_
 refine tg_ f [12,.K [0,3] []] ?_
 obtain⟨B,u,h⟩:=Qb h
 refine AK.loop (body:=(fun st=>QeH l st)) (fun st σ=>σ=⟨[(0,.sl 1 (l.map Qcx)),(3,.I st)],[]⟩) (Sum.elim (fun q e σ=>e=.ret/\σ=⟨[(2,.b false)],[]⟩) (fun q e σ=>e=.exit 0/\σ=⟨[],[]⟩)) u rfl ?_ ?_
 ·rintro v o σ rfl h
  refine Qa f [5,.o (.ln l.length),3] rfl (a1_ Qf) ?_
  rcases Qm h with⟨p,h⟩|⟨p,h⟩
  ·obtain⟨J,D,h⟩:=Qb h
   obtain⟨L,E,h⟩:=Qb h
   refine Qa f [.T,8,.o (.row (Qcx J)),1,.o (.C1 (.b L)),10,.K [0,3,4,5] []] rfl (a3_ p (QJ D) (QqR _ E)) ?_
   obtain⟨w,x,h⟩:=Qb h
   refine AK.loop (body:=(fun st=>Qdw v l st.1 st.2)) (fun st σ=>σ=⟨[(0,.sl 1 (l.map Qcx)),(3,.I v),(4,.b st.1),(5,.I st.2)],[]⟩) (fun q e σ=>e=.exit 2/\σ=⟨[(0,.sl 1 (l.map Qcx)),(3,.I v),(4,.b q)],[]⟩) x rfl ?_ ?_
   ·rintro ⟨M,t⟩ o σ rfl h
    refine tg_ f [8] ?_
    refine bq_ f h [.T,4] rfl (fun g h=>?_) [.F,2,.K [0,3,4] []] rfl fun g h=>?_
    ·obtain⟨i,y,h⟩:=Qb h
     replace h:Qik t i=some o:=h
     refine AK.meetX (fun σ=>σ=⟨[(0,.sl 1 (l.map Qcx)),(3,.I v),(4,.b i),(5,.I t)],[]⟩) ?_ ?_
     ·replace h:=y
      refine tg_ f [.K [0,3,4,5] []] ?_
      rcases Qm h with⟨j,h⟩|⟨j,h⟩
      ·obtain⟨G,z,h⟩:=Qb h
       obtain⟨H,A,h⟩:=Qb h
       refine AK.draw2 Qo f mixed [.N,.a .no (some ([],.b true)) false,.N,.N,.a (.row (Qcx G)) none false,.N,.N,.N,.a (.row (Qcx H)) none false,.N,.N,.N,.m .s] [] [] [0,3,4,5] [] rfl rfl rfl ⟨⟨(tc_ j),(QJ z)⟩,(QJ A)⟩ rfl (by kernel_rfl) rfl rfl rfl ?_
       refine tg_ f [.K [0,3,4,5] []] ?_
       cases h
       exact mt_
      refine AK.draw2 Qo f mixed [.N,.a .no (some ([],.b false)) false,.N,.N,.N,.N,.N,.N,.N,.N,.N,.N,.m .s] [] [] [0,3,4,5] [] rfl rfl rfl (tc_ j) rfl (by kernel_rfl) rfl rfl rfl ?_
      refine tg_ f [.K [0,3,4,5] []] ?_
      cases h
      exact mt_
     rintro σ rfl
     replace h:Qik t i=some o:=h
     refine tg_ f [7,.K [0,3,4,5] []] ?_
     cases h
     exact QY rfl rfl
    cases h
    exact QZ rfl (an_ rfl rfl)
   replace h:QlW v w=some o:=h
   rintro e σ ⟨rfl,rfl⟩
   refine tg_ f [8] ?_
   refine bq_ f h [.T,8,.K [2] []] rfl (fun k h=>?_) [.F,8,.K [0,3] []] rfl fun k h=>?_
   ·cases h
    exact Qah rfl (an_ rfl rfl)
   cases h
   exact QY rfl rfl
  refine Qa f [.F,2,.K [] []] rfl (a1_ p) ?_
  cases h
  exact QZ rfl (an_ rfl rfl)
 rcases B with(_ | _)
 ·replace h:QpB=some r:=h
  rintro e σ ⟨rfl,rfl⟩
  refine tg_ f [2] ?_
  cases h
  exact d1_ tt_
 replace h:QpC=some r:=h
 rintro e σ ⟨rfl,rfl⟩
 refine tg_ f [8] ?_
 cases h
 exact d1_ tt_
def QpD (a:Bool)(e:(List QD))(b:Int)(c:QD):Option Bool:=
 bif a then
 (idx e b).bind fun d=>
 some (!QbW d.Name c.Name)
 else
 some false
def Qil (b:Int)(a:Bool):Option ((Bool×Int)⊕Bool):=
 some (.inl (a,(w64 (b+1))))
def Qdx (e:Int)(f:(List QD))(d:QD)(a:Bool)(b:Int):Option ((Bool×Int)⊕Bool):=
 bif (decide (b<e))then
 (QpD a f b d).bind (fun c=>Qil b c)
 else
 some (.inr a)
def Qbe (b:Bool)(c:(List Int))(d:Int)(a:Int):Option ((Int×(List Int))⊕(Unit⊕(List Int))):=
 bif ((!b)||((decide (a<1))||(decide (1024<a))))then
 some (.inr (.inl ()))
 else
 (chk (decide (c.length+([a]:List Int).length<=4294967296))).bind fun _=>
 some (.inl ((w64 (d+1)),(c++([a]:List Int))))
def Qim (a:QD)(c:(List Int))(d:Int)(b:Bool):Option ((Int×(List Int))⊕(Unit⊕(List Int))):=
 bif (a.Kind==1)then
 bif ((decide (a.Lo<=a.Hi))&&((decide (0<=a.Lo))||(decide (a.Hi<(w64 (a.Lo+1024))))))then
 Qbe b c d (w64 ((min2 (w64 (a.Hi-a.Lo)) 1024)+1))
 else
 Qbe b c d 0
 else
 bif (a.Kind==2)then
 (QlC a.Names).bind fun e=>
 bif e then
 Qbe b c d (a.Names.length:Int)
 else
 Qbe b c d 0
 else
 bif (a.Kind==3)then
 bif ((decide (0<=a.First))&&((decide (a.First<d))&&((decide (0<=a.Then))&&(decide (a.Then<d)))))then
 (idx c a.First).bind fun f=>
 (idx c a.Then).bind fun g=>
 Qbe b c d (w64 (f*g))
 else
 Qbe b c d 0
 else
 Qbe b c d 0
def QeI (c:(List QD))(b:Int)(e:(List Int)):Option ((Int×(List Int))⊕(Unit⊕(List Int))):=
 bif (decide (b<(c.length:Int)))then
 (idx c b).bind fun a=>
 (Qj7 a.Name).bind fun d=>
 (Qz (fun st=>Qdx b c a st.1 st.2) (d,0)).bind (fun q=>Qim a e b q)
 else
 some (.inr (.inr e))
def QpE : Option (List Int):=
 some ([]:List Int)
def QpF (a:(List Int)):Option (List Int):=
 some a
def QlD (a:(List QD)):Option (List Int):=
 bif (decide (32<(a.length:Int)))then
 some ([]:List Int)
 else
 (Qz (fun st=>QeI a st.1 st.2) (0,([]:List Int))).bind (Sum.elim (fun q=>QpE) (fun q=>QpF q))
theorem Qv0 (A){r}(h:QlD A=some r):Qc prog 78 [.sl 7 (A.map Qq)] [] (Gives (.own 600 r.length) [(600,.arr 1 (r.map Qe))]):=by
 refine wk_ 128 func78 fun C g=>?_
 refine Qa g [9,.o (.ln A.length),3] rfl (a1_ Qf) ?_
 refine bg_ h (fun Z h=>Qa g [.T,7,.adopt 2 600 1,.O 600 (.arr 1 (([]:List Int).map Qe)),.S 2 (.own 600 ([]:List Int).length),.K [2] [600]] rfl (a3_ Z rfl rfl) ?_) fun Z h=>Qa g [.F,14,.adopt 3 123 1,.O 123 (.arr 1 (([]:List Int).map Qe)),.S 3 (.own 123 ([]:List Int).length),.K [0,3,4] [123]] rfl (a3_ Z rfl (congrArg (fun n=>V.own 123 n) (by simp))) ?_
 ·cases h
  exact d1_ r1_
 obtain⟨a9,a1,h⟩:=Qb h
 refine AK.loop (body:=(fun st=>QeI A st.1 st.2)) (fun st σ=>σ=⟨[(0,.sl 7 (A.map Qq)),(3,.own 123 st.2.length),(4,.I st.1)],[(123,.arr 1 (st.2.map Qe))]⟩) (Sum.elim (fun q e σ=>e=.ret/\σ=⟨[(2,.lit (.slice none 0 0))],[]⟩) (fun q e σ=>e=.exit 0/\σ=⟨[(3,.own 123 q.length)],[(123,.arr 1 (q.map Qe))]⟩)) a1 rfl ?_ ?_
 ·rintro ⟨l,w⟩ o σ rfl h
  refine Qa g [5,.o (.ln A.length),3] rfl (a1_ Qf) ?_
  rcases Qm h with⟨B,h⟩|⟨B,h⟩
  ·obtain⟨f,a2,h⟩:=Qb h
   obtain⟨b0,a3,h⟩:=Qb h
   refine Qa g [.T,8,.o (.row (Qq f)),.A (Qq f),2,.O 5 (.var (Qq f)),6,.o (.C1 (.b b0)),10,.K [0,3,4,5,6,7] [5,123]] rfl (a5_ B (QJ a2) rfl rfl (QqR _ a3)) ?_
   obtain⟨j,a4,h⟩:=Qb h
   refine AK.loop (body:=(fun st=>Qdx l A f st.1 st.2)) (fun st σ=>σ=⟨[(0,.sl 7 (A.map Qq)),(3,.own 123 w.length),(4,.I l),lk_ 5,(6,.b st.1),(7,.I st.2)],[(5,.var (Qq f)),(123,.arr 1 (w.map Qe))]⟩) (fun q e σ=>e=.exit 2/\σ=⟨[(0,.sl 7 (A.map Qq)),(3,.own 123 w.length),(4,.I l),lk_ 5,(6,.b q)],[(5,.var (Qq f)),(123,.arr 1 (w.map Qe))]⟩) a4 rfl ?_ ?_
   ·rintro ⟨b6,a0⟩ o σ rfl h
    refine tg_ g [8] ?_
    refine bq_ g h [.T,4] rfl (fun D h=>?_) [.F,2,.K [0,3,4,5,6] [5,123]] rfl fun D h=>?_
    ·obtain⟨E,a5,h⟩:=Qb h
     replace h:Qil a0 E=some o:=h
     refine AK.meetX (fun σ=>σ=⟨[(0,.sl 7 (A.map Qq)),(3,.own 123 w.length),(4,.I l),lk_ 5,(6,.b E),(7,.I a0)],[(5,.var (Qq f)),(123,.arr 1 (w.map Qe))]⟩) ?_ ?_
     ·replace h:=a5
      refine tg_ g [.K [0,3,4,5,6,7] [5,123]] ?_
      rcases Qm h with⟨G,h⟩|⟨G,h⟩
      ·obtain⟨b1,a6,h⟩:=Qb h
       refine AK.draw2 Qo g mixed [.N,.a .no (some ([],.b true)) false,.N,.N,.a (.row (Qq b1)) none false,.N,.N,.N,.N,.N,.N,.m .s] [] [] [0,3,4,5,6,7] [5,123] rfl rfl rfl ⟨(tc_ G),(QJ a6)⟩ rfl (by kernel_rfl) rfl rfl rfl ?_
       refine tg_ g [.K [0,3,4,5,6,7] [5,123]] ?_
       cases h
       exact mt_
      refine AK.draw2 Qo g mixed [.N,.a .no (some ([],.b false)) false,.N,.N,.N,.N,.N,.N,.N,.N,.N,.m .s] [] [] [0,3,4,5,6,7] [5,123] rfl rfl rfl (tc_ G) rfl (by kernel_rfl) rfl rfl rfl ?_
      refine tg_ g [.K [0,3,4,5,6,7] [5,123]] ?_
      cases h
      exact mt_
     rintro σ rfl
     replace h:Qil a0 E=some o:=h
     refine tg_ g [7,.K [0,3,4,5,6,7] [5,123]] ?_
     cases h
     exact QY rfl rfl
    cases h
    exact QZ rfl (an_ rfl rfl)
   replace h:Qim f w l j=some o:=h
   rintro e σ ⟨rfl,rfl⟩
   refine tg_ g [7] ?_
   refine AK.meet (fun σ=>∃i:Int,σ=⟨[(0,.sl 7 (A.map Qq)),(3,.own 123 w.length),(4,.I l),(6,.b j),(8,.I i)],[(123,.arr 1 (w.map Qe))]⟩/\Qbe j w l i=some o) ?_ ?_
   ·refine tg_ g [13] ?_
    refine bq_ g h [.T,1] rfl (fun H h=>?_) [.F,6] rfl fun H h=>?_
    ·refine AK.meetX (fun σ=>σ=⟨[(0,.sl 7 (A.map Qq)),(3,.own 123 w.length),(4,.I l),lk_ 5,(6,.b j),(8,.I 0),(63,.b ((decide (f.Lo<=f.Hi))&&((decide (0<=f.Lo))||(decide (f.Hi<(w64 (f.Lo+1024)))))))],[(5,.var (Qq f)),(123,.arr 1 (w.map Qe))]⟩) ?_ ?_
     ·refine tg_ g [7] ?_
      rcases QE (decide (f.Lo<=f.Hi))with p | p
      ·refine Qa g [.S 51 (.b true),4] rfl (tc_ p) ?_
       rcases QE (decide (0<=f.Lo))with x | x
       ·refine Qa g [.S 55 (.b true),9,.S 63 (.b ((decide (f.Lo<=f.Hi))&&((decide (0<=f.Lo))||(decide (f.Hi<(w64 (f.Lo+1024))))))),.K [0,3,4,5,6,8,63] [5,123]] rfl ⟨(tc_ x),(congrArg V.b (Qaq p (orT x rfl)))⟩ ?_
        exact mt_
       refine Qa g [.S 55 (.b false),9,.S 63 (.b ((decide (f.Lo<=f.Hi))&&((decide (0<=f.Lo))||(decide (f.Hi<(w64 (f.Lo+1024))))))),.K [0,3,4,5,6,8,63] [5,123]] rfl ⟨(tc_ x),(congrArg V.b (Qaq p (orF x rfl)))⟩ ?_
       exact mt_
      refine Qa g [.S 51 (.b false),13,.S 63 (.b ((decide (f.Lo<=f.Hi))&&((decide (0<=f.Lo))||(decide (f.Hi<(w64 (f.Lo+1024))))))),.K [0,3,4,5,6,8,63] [5,123]] rfl ⟨(tc_ p),(congrArg V.b (Qa4 p rfl))⟩ ?_
      exact mt_
     rintro σ rfl
     refine tg_ g [1] ?_
     refine bq_ g h [.T,11,.K [0,3,4,6,8] [123]] rfl (fun J h=>?_) [.F,2,.K [0,3,4,6,8] [123]] rfl fun J h=>?_
     ·exact AK.met (ex_ _ (an_ rfl h))
     exact AK.met (ex_ _ (an_ rfl h))
    rcases Qm h with⟨L,h⟩|⟨L,h⟩
    ·obtain⟨b2,a7,h⟩:=Qb h
     refine Qa g [.T,4,.o (.C1 (.b b2)),8] rfl (a2_ L (QvZ _ a7)) ?_
     refine bg_ h (fun M h=>Qa g [.T,3,.o (.ln f.Names.length),3,.K [0,3,4,6,8] [123]] rfl (a2_ M Qf) ?_) fun M h=>Qa g [.F,2,.K [0,3,4,6,8] [123]] rfl (a1_ M) ?_
     ·exact AK.met (ex_ _ (an_ rfl h))
     exact AK.met (ex_ _ (an_ rfl h))
    refine Qa g [.F,6] rfl (a1_ L) ?_
    refine bq_ g h [.T,1] rfl (fun P h=>?_) [.F,2,.K [0,3,4,6,8] [123]] rfl fun P h=>?_
    ·refine AK.meetX (fun σ=>σ=⟨[(0,.sl 7 (A.map Qq)),(3,.own 123 w.length),(4,.I l),lk_ 5,(6,.b j),(8,.I 0),(101,.b ((decide (0<=f.First))&&((decide (f.First<l))&&((decide (0<=f.Then))&&(decide (f.Then<l))))))],[(5,.var (Qq f)),(123,.arr 1 (w.map Qe))]⟩) ?_ ?_
     ·refine tg_ g [5] ?_
      rcases QE (decide (0<=f.First))with k | k
      ·refine Qa g [.S 85 (.b true),6] rfl (tc_ k) ?_
       rcases QE (decide (f.First<l))with t | t
       ·refine Qa g [.S 91 (.b true),5] rfl (tc_ t) ?_
        rcases QE (decide (0<=f.Then))with y | y
        ·refine Qa g [.S 96 (.b true),6,.S 101 (.b ((decide (0<=f.First))&&((decide (f.First<l))&&((decide (0<=f.Then))&&(decide (f.Then<l)))))),.K [0,3,4,5,6,8,101] [5,123]] rfl ⟨(tc_ y),(congrArg V.b (Qaq k (Qaq t (Qaq y rfl))))⟩ ?_
         exact mt_
        refine Qa g [.S 96 (.b false),6,.S 101 (.b ((decide (0<=f.First))&&((decide (f.First<l))&&((decide (0<=f.Then))&&(decide (f.Then<l)))))),.K [0,3,4,5,6,8,101] [5,123]] rfl ⟨(tc_ y),(congrArg V.b (Qaq k (Qaq t (Qa4 y rfl))))⟩ ?_
        exact mt_
       refine Qa g [.S 91 (.b false),11,.S 101 (.b ((decide (0<=f.First))&&((decide (f.First<l))&&((decide (0<=f.Then))&&(decide (f.Then<l)))))),.K [0,3,4,5,6,8,101] [5,123]] rfl ⟨(tc_ t),(congrArg V.b (Qaq k (Qa4 t rfl)))⟩ ?_
       exact mt_
      refine Qa g [.S 85 (.b false),17,.S 101 (.b ((decide (0<=f.First))&&((decide (f.First<l))&&((decide (0<=f.Then))&&(decide (f.Then<l)))))),.K [0,3,4,5,6,8,101] [5,123]] rfl ⟨(tc_ k),(congrArg V.b (Qa4 k rfl))⟩ ?_
      exact mt_
     rintro σ rfl
     refine tg_ g [1] ?_
     rcases Qm h with⟨U,h⟩|⟨U,h⟩
     ·obtain⟨b3,X,h⟩:=Qb h
      obtain⟨b4,Y,h⟩:=Qb h
      refine Qa g [.T,.K [0,3,4,5,6,8] [5,123]] rfl (a1_ U) ?_
      refine AK.draw2 Qo g mixed [.N,.N,.N,.N,.a (.row (Qe b3)) none false,.N,.N,.N,.N,.a (.row (Qe b4)) none false,.N,.m .s] [] [] [0,3,4,6,8] [123] rfl rfl rfl ⟨⟨⟨⟨tt_,(QdK X rfl)⟩,(Qcb (Qcq X).2)⟩,(QdK Y rfl)⟩,(Qcb (Qcq Y).2)⟩ rfl (by kernel_rfl) rfl rfl rfl ?_
      refine tg_ g [1,.K [0,3,4,6,8] [123]] ?_
      exact AK.met (ex_ _ (an_ rfl h))
     refine Qa g [.F,2,.K [0,3,4,6,8] [123]] rfl (a1_ U) ?_
     exact AK.met (ex_ _ (an_ rfl h))
    exact AK.met (ex_ _ (an_ rfl h))
   rintro σ ⟨i,rfl,h⟩
   unfold Qbe at h
   refine tg_ g [2] ?_
   refine AK.meetX (fun σ=>σ=⟨[(0,.sl 7 (A.map Qq)),(3,.own 123 w.length),(4,.I l),(8,.I i),(122,.b ((!j)||((decide (i<1))||(decide (1024<i)))))],[(123,.arr 1 (w.map Qe))]⟩) ?_ ?_
   ·refine tg_ g [4] ?_
    rcases QE (!j)with u | u
    ·refine Qa g [.S 115 (.b true),8,.S 122 (.b ((!j)||((decide (i<1))||(decide (1024<i))))),.K [0,3,4,8,122] [123]] rfl ⟨(tc_ u),(congrArg V.b (orT u rfl))⟩ ?_
     exact mt_
    refine Qa g [.S 115 (.b false),4] rfl (tc_ u) ?_
    rcases QE (decide (i<1))with z | z
    ·refine Qa g [.S 119 (.b true),4,.S 122 (.b ((!j)||((decide (i<1))||(decide (1024<i))))),.K [0,3,4,8,122] [123]] rfl ⟨(tc_ z),(congrArg V.b (orF u (orT z rfl)))⟩ ?_
     exact mt_
    refine Qa g [.S 119 (.b false),4,.S 122 (.b ((!j)||((decide (i<1))||(decide (1024<i))))),.K [0,3,4,8,122] [123]] rfl ⟨(tc_ z),(congrArg V.b (orF u (orF z rfl)))⟩ ?_
    exact mt_
   rintro σ rfl
   refine tg_ g [1] ?_
   rcases Qm h with⟨W,h⟩|⟨W,h⟩
   ·refine Qa g [.T,9,.K [2] []] rfl (a1_ W) ?_
    cases h
    exact Qah rfl (an_ rfl rfl)
   obtain⟨a8,h⟩:=QaV h
   refine Qa g [.F,5,.v (.bd []) [] (.sl 1 (([i]:List Int).map Qe)),.app ((w++([i]:List Int)).map Qe) (w++([i]:List Int)).length,9,.K [0,3,4] [123]] rfl (a3_ W rfl ⟨Qf,Qcw a8 Qf,Qa2,Qdc Qf⟩) ?_
   cases h
   exact QY rfl rfl
  refine Qa g [.F,2,.K [3] [123]] rfl (a1_ B) ?_
  cases h
  exact QZ rfl (an_ rfl rfl)
 rcases a9 with(_ | b5)
 ·replace h:QpE=some r:=h
  rintro e σ ⟨rfl,rfl⟩
  refine Qa g [2,.adopt 2 600 1,.O 600 (.arr 1 (([]:List Int).map Qe)),.S 2 (.own 600 ([]:List Int).length)] rfl (a2_ rfl rfl) ?_
  cases h
  exact d1_ r1_
 replace h:QpF b5=some r:=h
 rintro e σ ⟨rfl,rfl⟩
 refine tg_ g [9,.K [2] [123],.ren 123 600] ?_
 cases h
 exact d1_ r1_
def Qe2 (c:(List QD))(a:Int):Option Int:=
 (QlD c).bind fun b=>
 bif ((decide (a<0))||(decide ((b.length:Int)<=a)))then
 some 0
 else
 (idx b a).bind fun d=>
 some d
theorem QmI (k c){r}(h:Qe2 k c=some r):Qc prog 38 [.sl 7 (k.map Qq),.I c] [] (Gives (.I r) []):=by
 refine wk_ 20 func38 fun C e=>?_
 obtain⟨f,j,h⟩:=Qb h
 refine Qa e [8,.o (.co false [.d] 1 (f.map Qe) f.length),5] rfl (a1_ ⟨(Qv0 _ j),Qf,.inl rfl⟩) ?_
 refine AK.meetX (fun σ=>σ=⟨[(1,.I c),(5,.own 7 f.length),(15,.b ((decide (c<0))||(decide ((f.length:Int)<=c))))],[(7,.arr 1 (f.map Qe))]⟩) ?_ ?_
 ·refine tg_ e [4] ?_
  rcases QE (decide (c<0))with a | a
  ·refine Qa e [.S 10 (.b true),6,.S 15 (.b ((decide (c<0))||(decide ((f.length:Int)<=c)))),.K [1,5,15] [7]] rfl ⟨(tc_ a),(congrArg V.b (orT a rfl))⟩ ?_
   exact mt_
  refine Qa e [.S 10 (.b false),6,.S 15 (.b ((decide (c<0))||(decide ((f.length:Int)<=c)))),.K [1,5,15] [7]] rfl ⟨(tc_ a),(congrArg V.b (orF a rfl))⟩ ?_
  exact mt_
 rintro σ rfl
 refine tg_ e [1] ?_
 rcases Qm h with⟨g,h⟩|⟨g,h⟩
 ·refine Qa e [.T,7] rfl (a1_ g) ?_
  cases h
  exact d1_ tt_
 obtain⟨l,i,h⟩:=Qb h
 refine Qa e [.F,7,.o (.row (Qe l)),4] rfl (a3_ g (QdK i rfl) (Qcb (Qcq i).2)) ?_
 cases h
 exact d1_ tt_
def Qok (b:Int)(c:(List QD))(d:Int):Option Bool:=
 bif (decide (b<0))then
 some true
 else
 (Qe2 c d).bind fun a=>
 some (decide (a<=b))
def Qhk (c:(List QD))(d:Int)(e:Int)(f:Bool):Option (Int×Bool):=
 bif f then
 some (0,false)
 else
 (idx c d).bind fun a=>
 bif (a.Kind==1)then
 (idx c d).bind fun b=>
 some ((w64 (b.Lo+e)),true)
 else
 some (e,true)
def QkG (a:(List QD))(b:Int)(c:Int):Option (Int×Bool):=
 (Qok c a b).bind (fun d=>Qhk a b c d)
theorem Qva (i j k){r}(h:QkG i j k=some r):Qc prog 131 [.sl 7 (i.map Qq),.I j,.I k] [] (Gives (.tup [.I r.1,.b r.2]) []):=by
 refine wk_ 31 func131 fun C g=>?_
 refine tg_ g [8] ?_
 obtain⟨q,s,h⟩:=Qb h
 replace h:Qhk i j k q=some r:=h
 refine AK.meetX (fun σ=>σ=⟨[(0,.sl 7 (i.map Qq)),(1,.I j),(2,.I k),(16,.b q)],[]⟩) ?_ ?_
 ·replace h:=s
  refine tg_ g [4] ?_
  rcases Qm h with⟨a,h⟩|⟨a,h⟩
  ·refine Qa g [.S 10 (.b true),7,.K [0,1,2,16] []] rfl (tc_ a) ?_
   cases h
   exact mt_
  obtain⟨t,l,h⟩:=Qb h
  refine Qa g [.S 10 (.b false),3,.o (.C2 (.I t)),3,.K [0,1,2,16] []] rfl ⟨(tc_ a),(QmI _ _ l)⟩ ?_
  cases h
  exact mt_
 rintro σ rfl
 replace h:Qhk i j k q=some r:=h
 refine tg_ g [1] ?_
 rcases Qm h with⟨e,h⟩|⟨e,h⟩
 ·refine Qa g [.T,8] rfl (a1_ e) ?_
  cases h
  exact d2_ tt_
 obtain⟨u,m,h⟩:=Qb h
 refine Qa g [.F,7,.o (.row (Qq u)),5] rfl (a2_ e (QJ m)) ?_
 rcases Qm h with⟨f,h⟩|⟨f,h⟩
 ·obtain⟨v,p,h⟩:=Qb h
  refine Qa g [.T,4,.o (.row (Qq v)),10] rfl (a2_ f (QJ p)) ?_
  cases h
  exact d2_ tt_
 refine Qa g [.F,10] rfl (a1_ f) ?_
 cases h
 exact d2_ tt_
def QfQ (e:QF)(b:(List Int))(h:Qn)(a:Int)(c:(List Int)):Option ((Int×(List Int))⊕(Unit⊕(List Int))):=
 bif (decide (a<(e.Vars.length:Int)))then
 (idx e.Vars a).bind fun f=>
 (idx b a).bind fun g=>
 (QkG h.Colours f.Colour g).bind fun d=>
 bif (!d.2)then
 some (.inr (.inl ()))
 else
 (chk (decide (c.length+([d.1]:List Int).length<=4294967296))).bind fun _=>
 some (.inl ((w64 (a+1)),(c++([d.1]:List Int))))
 else
 some (.inr (.inr c))
def QrK : Option ((List Int)×Int):=
 some (([]:List Int),1)
def QrL (a:(List Int)):Option ((List Int)×Int):=
 some (a,0)
def QiK (d:Qn)(a:Int)(b:(List Int)):Option ((List Int)×Int):=
 bif ((decide (a<0))||(decide ((d.Tasks.length:Int)<=a)))then
 some (([]:List Int),3)
 else
 (idx d.Tasks a).bind fun c=>
 bif ((b.length:Int) != (c.Vars.length:Int))then
 some (([]:List Int),1)
 else
 (Qz (fun st=>QfQ c b d st.1 st.2) (0,([]:List Int))).bind (Sum.elim (fun q=>QrK) (fun q=>QrL q))
theorem Qm7 (u f g){r}(h:QiK u f g=some r):Qc prog 69 [.agg (Qd u),.I f,.sl 1 (g.map Qe)] [] (Gives (.tup [.sl 1 (r.1.map Qe),.I r.2]) []):=by
 refine wk_ 61 func69 fun C i=>?_
 refine tg_ i [9] ?_
 refine AK.meetX (fun σ=>σ=⟨[(1,.I f),(2,.sl 1 (g.map Qe)),lk_ 3,(21,.b ((decide (f<0))||(decide ((u.Tasks.length:Int)<=f))))],[(3,.var (Qd u))]⟩) ?_ ?_
 ·refine tg_ i [4] ?_
  rcases QE (decide (f<0))with j | j
  ·refine Qa i [.S 15 (.b true),7,.S 21 (.b ((decide (f<0))||(decide ((u.Tasks.length:Int)<=f)))),.K [1,2,3,21] [3]] rfl ⟨(tc_ j),(congrArg V.b (orT j rfl))⟩ ?_
   exact mt_
  refine Qa i [.S 15 (.b false),3,.o (.ln u.Tasks.length),3,.S 21 (.b ((decide (f<0))||(decide ((u.Tasks.length:Int)<=f)))),.K [1,2,3,21] [3]] rfl ⟨⟨(tc_ j),Qf⟩,(congrArg V.b (orF j rfl))⟩ ?_
  exact mt_
 rintro σ rfl
 refine tg_ i [1] ?_
 rcases Qm h with⟨k,h⟩|⟨k,h⟩
 ·refine Qa i [.T,8,.denil 6 [some 1]] rfl (a1_ k) ?_
  cases h
  exact d2_ tt_
 obtain⟨l,w,h⟩:=Qb h
 refine Qa i [.F,7,.o (.row (Qj l)),9,.o (.ln g.length),1,.o (.ln l.Vars.length),3] rfl (a4_ k (QJ w) Qf Qf) ?_
 refine bg_ h (fun m h=>Qa i [.T,8,.denil 6 [some 1],.K [6,7] []] rfl (a1_ m) ?_) fun m h=>Qa i [.F,14,.adopt 9 56 1,.O 56 (.arr 1 (([]:List Int).map Qe)),.S 9 (.own 56 ([]:List Int).length),.K [2,3,8,9,10] [3,56]] rfl (a3_ m rfl (congrArg (fun n=>V.own 56 n) (by simp))) ?_
 ·cases h
  exact d2_ tt_
 obtain⟨G,x,h⟩:=Qb h
 refine AK.loop (body:=(fun st=>QfQ l g u st.1 st.2)) (fun st σ=>σ=⟨[(2,.sl 1 (g.map Qe)),lk_ 3,(8,.sl 2 (l.Vars.map QO)),(9,.own 56 st.2.length),(10,.I st.1)],[(3,.var (Qd u)),(56,.arr 1 (st.2.map Qe))]⟩) (Sum.elim (fun q e σ=>e=.ret/\σ=⟨[(6,.lit (.slice none 0 0)),(7,.I 1)],[]⟩) (fun q e σ=>e=.exit 0/\σ=⟨[(9,.own 56 q.length)],[(56,.arr 1 (q.map Qe))]⟩)) x rfl ?_ ?_
 ·rintro ⟨L,y⟩ o σ rfl h
  refine Qa i [5,.o (.ln l.Vars.length),3] rfl (a1_ Qf) ?_
  rcases Qm h with⟨p,h⟩|⟨p,h⟩
  ·obtain⟨H,z,h⟩:=Qb h
   obtain⟨J,A,h⟩:=Qb h
   obtain⟨s,B,h⟩:=Qb h
   refine Qa i [.T,5,.K [2,3,8,9,10] [3,56]] rfl (a1_ p) ?_
   refine AK.draw2 Qo i mixed [.N,.N,.N,.N,.a (.row (QO H)) none false,.N,.N,.N,.N,.a (.row (Qe J)) none false,.N,.a (.C3 (.tup [.I s.1,.b s.2])) none false,.N,.N,.N,.N,.N] [] [] [2,3,8,9,10,11,12] [3,56] rfl rfl rfl ⟨⟨⟨tt_,(QJ z)⟩,(QJ A)⟩,(Qva _ _ _ B)⟩ rfl (by kernel_rfl) rfl rfl rfl ?_
   refine tg_ i [8] ?_
   rcases Qm h with⟨t,h⟩|⟨t,h⟩
   ·refine Qa i [.T,10,.K [6,7] []] rfl (a1_ t) ?_
    cases h
    exact Qah rfl (an_ rfl rfl)
   obtain⟨D,h⟩:=QaV h
   refine Qa i [.F,5,.v (.bd []) [] (.sl 1 (([s.1]:List Int).map Qe)),.app ((y++([s.1]:List Int)).map Qe) (y++([s.1]:List Int)).length,9,.K [2,3,8,9,10] [3,56]] rfl (a3_ t rfl ⟨Qf,Qcw D Qf,Qa2,Qdc Qf⟩) ?_
   cases h
   exact QY rfl rfl
  refine Qa i [.F,2,.K [9] [56]] rfl (a1_ p) ?_
  cases h
  exact QZ rfl (an_ rfl rfl)
 rcases G with(_ | E)
 ·replace h:QrK=some r:=h
  rintro e σ ⟨rfl,rfl⟩
  refine tg_ i [2,.denil 6 [some 1]] ?_
  cases h
  exact d2_ tt_
 replace h:QrL E=some r:=h
 rintro e σ ⟨rfl,rfl⟩
 refine Qa i [10,.frz 56 (E.map Qe) [6] []] rfl (a1_ (a1_ (QeC Qf))) ?_
 cases h
 exact d2_ tt_
def QpG (c:Qh)(rec_ref04_Depth:Qh->Option Int)(d:Int)(a:Int):Option ((Int×Int)⊕Int):=
 bif (decide (a<(c.Kids.length:Int)))then
 (idx c.Kids a).bind fun e=>
 (rec_ref04_Depth e).bind fun b=>
 some (.inl ((max2 d b),(w64 (a+1))))
 else
 some (.inr d)
def QpH (a:Int):Option Int:=
 some (w64 (a+1))
def QmJ (rec_ref04_Depth:Qh->Option Int)(a:Qh):Option Int:=
 (Qz (fun st=>QpG a rec_ref04_Depth st.1 st.2) (0,0)).bind (fun q=>QpH q)
def Qd2 : Nat->Qh->Option Int
 | 0,_=>none
 | n+1,a=>QmJ (Qd2 n) a
def Qn1 (a:Qh):Option Int:=Qd2 (SizeOf.sizeOf a) a
theorem Quh (rec_ref04_Depth:Qh->Option Int)(hrec_ref04_Depth:∀(a:Qh) {r:Int},rec_ref04_Depth a=some r->Qc prog 183 [.agg (Qk a)] [] (Gives (.I r) []))(a:Qh){r:Int}(h:QmJ rec_ref04_Depth a=some r):Qc prog 183 [.agg (Qk a)] [] (Gives (.I r) []):=by
 refine wk_ 22 func183 fun C f=>?_
 refine tg_ f [18,.K [1,3,4] [1]] ?_
 obtain⟨m,g,h⟩:=Qb h
 refine AK.loop (body:=(fun st=>QpG a rec_ref04_Depth st.1 st.2)) (fun st σ=>σ=⟨[lk_ 1,(3,.I st.1),(4,.I st.2)],[(1,.var (Qk a))]⟩) (fun q e σ=>e=.exit 0/\σ=⟨[(3,.I q)],[]⟩) g rfl ?_ ?_
 ·rintro ⟨p,s⟩ o σ rfl h
  refine Qa f [6,.o (.ln a.Kids.length),3] rfl (a1_ (Qfy _)) ?_
  rcases Qm h with⟨b,h⟩|⟨b,h⟩
  ·obtain⟨l,j,h⟩:=Qb h
   obtain⟨k,i,h⟩:=Qb h
   refine Qa f [.T,9,.o (.row (Qk l)),.A (Qk l),.o (.C1 (.I k)),10,.K [1,3,4] [1]] rfl (a4_ b (Qbq j) rfl (hrec_ref04_Depth _ i)) ?_
   cases h
   exact QY rfl rfl
  refine Qa f [.F,2,.K [3] []] rfl (a1_ b) ?_
  cases h
  exact QZ rfl (an_ rfl rfl)
 replace h:QpH m=some r:=h
 rintro e σ ⟨rfl,rfl⟩
 refine tg_ f [10] ?_
 cases h
 exact d1_ tt_
theorem QnO : ∀(fuel:Nat) (a:Qh) {r:Int},Qd2 fuel a=some r->Qc prog 183 [.agg (Qk a)] [] (Gives (.I r) [])
 | 0,_,_,h=>by cases h
 | n+1,a,_,h=>Quh (Qd2 n) (fun _ _ h=>QnO n _ h) a h
theorem Qv1 (a){r}(h:Qn1 a=some r):Qc prog 183 [.agg (Qk a)] [] (Gives (.I r) []):=QnO _ a h
def QqS (c:Qh)(rec_ref04_Size:Qh->Option Int)(d:Int)(a:Int):Option ((Int×Int)⊕Int):=
 bif (decide (a<(c.Kids.length:Int)))then
 (idx c.Kids a).bind fun e=>
 (rec_ref04_Size e).bind fun b=>
 some (.inl ((w64 (d+b)),(w64 (a+1))))
 else
 some (.inr d)
def QqT (a:Int):Option Int:=
 some a
def Qm8 (rec_ref04_Size:Qh->Option Int)(a:Qh):Option Int:=
 (Qz (fun st=>QqS a rec_ref04_Size st.1 st.2) (1,0)).bind (fun q=>QqT q)
def QeJ : Nat->Qh->Option Int
 | 0,_=>none
 | n+1,a=>Qm8 (QeJ n) a
def QpI (a:Qh):Option Int:=QeJ (SizeOf.sizeOf a) a
theorem Qvb (rec_ref04_Size:Qh->Option Int)(hrec_ref04_Size:∀(a:Qh) {r:Int},rec_ref04_Size a=some r->Qc prog 184 [.agg (Qk a)] [] (Gives (.I r) []))(a:Qh){r:Int}(h:Qm8 rec_ref04_Size a=some r):Qc prog 184 [.agg (Qk a)] [] (Gives (.I r) []):=by
 refine wk_ 21 func184 fun C f=>?_
 refine tg_ f [18,.K [1,3,4] [1]] ?_
 obtain⟨m,g,h⟩:=Qb h
 refine AK.loop (body:=(fun st=>QqS a rec_ref04_Size st.1 st.2)) (fun st σ=>σ=⟨[lk_ 1,(3,.I st.1),(4,.I st.2)],[(1,.var (Qk a))]⟩) (fun q e σ=>e=.exit 0/\σ=⟨[(3,.I q)],[]⟩) g rfl ?_ ?_
 ·rintro ⟨p,s⟩ o σ rfl h
  refine Qa f [6,.o (.ln a.Kids.length),3] rfl (a1_ (Qfy _)) ?_
  rcases Qm h with⟨b,h⟩|⟨b,h⟩
  ·obtain⟨l,j,h⟩:=Qb h
   obtain⟨k,i,h⟩:=Qb h
   refine Qa f [.T,9,.o (.row (Qk l)),.A (Qk l),.o (.C1 (.I k)),10,.K [1,3,4] [1]] rfl (a4_ b (Qbq j) rfl (hrec_ref04_Size _ i)) ?_
   cases h
   exact QY rfl rfl
  refine Qa f [.F,2,.K [3] []] rfl (a1_ b) ?_
  cases h
  exact QZ rfl (an_ rfl rfl)
 replace h:QqT m=some r:=h
 rintro e σ ⟨rfl,rfl⟩
 refine tg_ f [9] ?_
 cases h
 exact d1_ tt_
theorem Qol : ∀(fuel:Nat) (a:Qh) {r:Int},QeJ fuel a=some r->Qc prog 184 [.agg (Qk a)] [] (Gives (.I r) [])
 | 0,_,_,h=>by cases h
 | n+1,a,_,h=>Qvb (QeJ n) (fun _ _ h=>Qol n _ h) a h
theorem QwV (a){r}(h:QpI a=some r):Qc prog 184 [.agg (Qk a)] [] (Gives (.I r) []):=Qol _ a h
def Qn2 (op1:Int):Option Bool:=
 some ((decide (1<=op1))&&(decide (op1<=11)))
theorem Qv2 (op1){r}(h:Qn2 op1=some r):Qc prog 213 [.I op1] [] (Gives (.b r) []):=by
 refine wk_ 9 func213 fun C c=>?_
 refine tg_ c [6] ?_
 refine AK.meetX (fun σ=>σ=⟨[(2,.b ((decide (1<=op1))&&(decide (op1<=11))))],[]⟩) ?_ ?_
 ·refine tg_ c [4] ?_
  rcases QE (decide (1<=op1))with a | a
  ·refine Qa c [.S 5 (.b true),5,.S 2 (.b ((decide (1<=op1))&&(decide (op1<=11)))),.K [2] []] rfl ⟨(tc_ a),(congrArg V.b (Qaq a rfl))⟩ ?_
   exact mt_
  refine Qa c [.S 5 (.b false),5,.S 2 (.b ((decide (1<=op1))&&(decide (op1<=11)))),.K [2] []] rfl ⟨(tc_ a),(congrArg V.b (Qa4 a rfl))⟩ ?_
  exact mt_
 rintro σ rfl
 refine tg_ c [2] ?_
 cases h
 exact d1_ tt_
def Qdy (f:Qh)(rec_ref04_parts:Qh->Int->Option Bool)(a:Int)(b:Bool)(c:Int):Option ((Bool×Int)⊕Bool):=
 bif ((decide (c<(f.Kids.length:Int)))&&b)then
 (idx f.Kids c).bind fun d=>
 (rec_ref04_parts d a).bind fun e=>
 some (.inl (e,(w64 (c+1))))
 else
 some (.inr b)
def QpJ (a:Bool):Option Bool:=
 some a
def Qb9 (c:Qh)(rec_ref04_parts:Qh->Int->Option Bool)(a:Int)(b:Bool):Option Bool:=
 (Qz (fun st=>Qdy c rec_ref04_parts a st.1 st.2) (b,0)).bind (fun q=>QpJ q)
def QpK (b:Qh):Option Bool:=
 bif ((b.Kids.length:Int)==2)then
 (Qn2 b.Num).bind fun a=>
 some a
 else
 some false
def Qf6 (c:Qh)(rec_ref04_parts:Qh->Int->Option Bool)(a:Int)(b:Bool):Option Bool:=
 Qb9 c rec_ref04_parts a b
def Qin (b:Qh)(rec_ref04_parts:Qh->Int->Option Bool)(a:Int)(d:Bool):Option Bool:=
 bif d then
 Qb9 b rec_ref04_parts a ((b.Kids.length:Int)==1)
 else
 bif (b.Kind==5)then
 (QpK b).bind (fun c=>Qf6 b rec_ref04_parts a c)
 else
 bif (b.Kind==6)then
 Qb9 b rec_ref04_parts a ((b.Kids.length:Int)==3)
 else
 Qb9 b rec_ref04_parts a false
def QjA (rec_ref04_parts:Qh->Int->Option Bool)(b:Qh)(a:Int):Option Bool:=
 bif (b.Kind==1)then
 Qb9 b rec_ref04_parts a ((b.Kids.length:Int)==0)
 else
 bif (b.Kind==2)then
 Qb9 b rec_ref04_parts a (((b.Kids.length:Int)==0)&&((decide (0<=b.Num))&&(decide (b.Num<a))))
 else
 bif (b.Kind==3)then
 Qin b rec_ref04_parts a (b.Kind==3)
 else
 Qin b rec_ref04_parts a (b.Kind==4)
def Qd3 : Nat->Qh->Int->Option Bool
 | 0,_,_=>none
 | n+1,b,a=>QjA (Qd3 n) b a
def Qn3 (b:Qh)(a:Int):Option Bool:=Qd3 (SizeOf.sizeOf b) b a
theorem Qui (rec_ref04_parts:Qh->Int->Option Bool)(hrec_ref04_parts:∀(f:Qh) (a:Int) {r:Bool},rec_ref04_parts f a=some r->Qc prog 185 [.agg (Qk f),.I a] [] (Gives (.b r) []))(f:Qh)(a:Int){r:Bool}(h:QjA rec_ref04_parts f a=some r):Qc prog 185 [.agg (Qk f),.I a] [] (Gives (.b r) []):=by
 refine wk_ 66 func185 fun C g=>?_
 refine Qa g [10,.o (.ln f.Kids.length),8] rfl (a1_ (Qfy _)) ?_
 refine AK.meet (fun σ=>∃A:Bool,σ=⟨[(1,.I a),lk_ 2,(5,.I (f.Kids.length:Int)),(6,.b A)],[(2,.var (Qk f))]⟩/\Qb9 f rec_ref04_parts a A=some r) ?_ ?_
 ·refine tg_ g [13] ?_
  refine bq_ g h [.T,6,.K [1,2,5,6] [2]] rfl (fun l h=>?_) [.F,6] rfl fun l h=>?_
  ·exact AK.met (ex_ _ (an_ rfl h))
  refine bq_ g h [.T] rfl (fun m h=>?_) [.F] rfl fun m h=>?_
  ·refine AK.meetX (fun σ=>σ=⟨[(1,.I a),lk_ 2,(5,.I (f.Kids.length:Int)),(6,.b (((f.Kids.length:Int)==0)&&((decide (0<=f.Num))&&(decide (f.Num<a)))))],[(2,.var (Qk f))]⟩) ?_ ?_
   ·refine tg_ g [4] ?_
    rcases QE ((f.Kids.length:Int)==0)with i | i
    ·refine Qa g [.S 21 (.b true),5] rfl (tc_ i) ?_
     rcases QE (decide (0<=f.Num))with j | j
     ·refine Qa g [.S 26 (.b true),7,.S 6 (.b (((f.Kids.length:Int)==0)&&((decide (0<=f.Num))&&(decide (f.Num<a))))),.K [1,2,5,6] [2]] rfl ⟨(tc_ j),(congrArg V.b (Qaq i (Qaq j rfl)))⟩ ?_
      exact mt_
     refine Qa g [.S 26 (.b false),7,.S 6 (.b (((f.Kids.length:Int)==0)&&((decide (0<=f.Num))&&(decide (f.Num<a))))),.K [1,2,5,6] [2]] rfl ⟨(tc_ j),(congrArg V.b (Qaq i (Qa4 j rfl)))⟩ ?_
     exact mt_
    refine Qa g [.S 21 (.b false),12,.S 6 (.b (((f.Kids.length:Int)==0)&&((decide (0<=f.Num))&&(decide (f.Num<a))))),.K [1,2,5,6] [2]] rfl ⟨(tc_ i),(congrArg V.b (Qa4 i rfl))⟩ ?_
    exact mt_
   rintro σ rfl
   refine tg_ g [1,.K [1,2,5,6] [2]] ?_
   exact AK.met (ex_ _ (an_ rfl h))
  refine AK.meet (fun σ=>∃B:Bool,σ=⟨[(1,.I a),lk_ 2,(5,.I (f.Kids.length:Int)),(6,.b false),(12,.I f.Kind),(32,.b B)],[(2,.var (Qk f))]⟩/\Qin f rec_ref04_parts a B=some r) ?_ ?_
  ·refine tg_ g [6] ?_
   refine bq_ g h [.T,1,.K [1,2,5,6,12,32] [2]] rfl (fun p h=>?_) [.F,4,.K [1,2,5,6,12,32] [2]] rfl fun p h=>?_
   ·exact AK.met (ex_ _ (an_ rfl h))
   exact AK.met (ex_ _ (an_ rfl h))
  rintro σ ⟨B,rfl,h⟩
  refine bq_ g h [.T,6,.K [1,2,5,6] [2]] rfl (fun s h=>?_) [.F,6] rfl fun s h=>?_
  ·exact AK.met (ex_ _ (an_ rfl h))
  refine bq_ g h [.T] rfl (fun t h=>?_) [.F,6] rfl fun t h=>?_
  ·obtain⟨u,D,h⟩:=Qb h
   replace h:Qf6 f rec_ref04_parts a u=some r:=h
   refine AK.meetX (fun σ=>σ=⟨[(1,.I a),lk_ 2,(5,.I (f.Kids.length:Int)),(6,.b u)],[(2,.var (Qk f))]⟩) ?_ ?_
   ·replace h:=D
    refine tg_ g [4] ?_
    rcases Qm h with⟨w,h⟩|⟨w,h⟩
    ·obtain⟨N,E,h⟩:=Qb h
     refine Qa g [.S 41 (.b true),2,.o (.C1 (.b N)),3,.K [1,2,5,6] [2]] rfl ⟨(tc_ w),(Qv2 _ E)⟩ ?_
     cases h
     exact mt_
    refine Qa g [.S 41 (.b false),6,.K [1,2,5,6] [2]] rfl (tc_ w) ?_
    cases h
    exact mt_
   rintro σ rfl
   replace h:Qf6 f rec_ref04_parts a u=some r:=h
   unfold Qf6 at h
   refine tg_ g [1,.K [1,2,5,6] [2]] ?_
   exact AK.met (ex_ _ (an_ rfl h))
  refine bq_ g h [.T,6,.K [1,2,5,6] [2]] rfl (fun x h=>?_) [.F,2,.K [1,2,5,6] [2]] rfl fun x h=>?_
  ·exact AK.met (ex_ _ (an_ rfl h))
  exact AK.met (ex_ _ (an_ rfl h))
 rintro σ ⟨A,rfl,h⟩
 refine tg_ g [7,.K [1,2,5,6,7] [2]] ?_
 obtain⟨O,G,h⟩:=Qb h
 refine AK.loop (body:=(fun st=>Qdy f rec_ref04_parts a st.1 st.2)) (fun st σ=>σ=⟨[(1,.I a),lk_ 2,(5,.I (f.Kids.length:Int)),(6,.b st.1),(7,.I st.2)],[(2,.var (Qk f))]⟩) (fun q e σ=>e=.exit 1/\σ=⟨[(6,.b q)],[]⟩) G rfl ?_ ?_
 ·rintro ⟨z,H⟩ o σ rfl h
  refine tg_ g [2] ?_
  refine AK.meetX (fun σ=>σ=⟨[(1,.I a),lk_ 2,(5,.I (f.Kids.length:Int)),(6,.b z),(7,.I H),(55,.b ((decide (H<(f.Kids.length:Int)))&&z))],[(2,.var (Qk f))]⟩) ?_ ?_
  ·refine tg_ g [5] ?_
   rcases QE (decide (H<(f.Kids.length:Int)))with k | k
   ·refine Qa g [.S 53 (.b true),3,.S 55 (.b ((decide (H<(f.Kids.length:Int)))&&z)),.K [1,2,5,6,7,55] [2]] rfl ⟨(tc_ k),(congrArg V.b (Qaq k rfl))⟩ ?_
    exact mt_
   refine Qa g [.S 53 (.b false),3,.S 55 (.b ((decide (H<(f.Kids.length:Int)))&&z)),.K [1,2,5,6,7,55] [2]] rfl ⟨(tc_ k),(congrArg V.b (Qa4 k rfl))⟩ ?_
   exact mt_
  rintro σ rfl
  refine tg_ g [1] ?_
  rcases Qm h with⟨y,h⟩|⟨y,h⟩
  ·obtain⟨J,L,h⟩:=Qb h
   obtain⟨P,M,h⟩:=Qb h
   refine Qa g [.T,8,.o (.row (Qk J)),.A (Qk J),1,.o (.C2 (.b P)),9,.K [1,2,5,6,7] [2]] rfl (a4_ y (Qbq L) rfl (hrec_ref04_parts _ _ M)) ?_
   cases h
   exact QY rfl rfl
  refine Qa g [.F,2,.K [6] []] rfl (a1_ y) ?_
  cases h
  exact QZ rfl (an_ rfl rfl)
 replace h:QpJ O=some r:=h
 rintro e σ ⟨rfl,rfl⟩
 refine tg_ g [9] ?_
 cases h
 exact d1_ tt_
theorem QnP : ∀(fuel:Nat) (c:Qh) (a:Int) {r:Bool},Qd3 fuel c a=some r->Qc prog 185 [.agg (Qk c),.I a] [] (Gives (.b r) [])
 | 0,_,_,_,h=>by cases h
 | n+1,c,a,_,h=>Qui (Qd3 n) (fun _ _ _ h=>QnP n _ _ h) c a h
theorem Qv3 (c a){r}(h:Qn3 c a=some r):Qc prog 185 [.agg (Qk c),.I a] [] (Gives (.b r) []):=QnP _ c a h
def QpL (b:Qh)(a:Int):Option Bool:=
 (Qn1 b).bind fun d=>
 bif (decide (d<=40))then
 (QpI b).bind fun e=>
 bif (decide (e<=400))then
 (Qn3 b a).bind fun c=>
 some c
 else
 some false
 else
 some false
def QlX (a:Bool):Option Bool:=
 some a
def QlE (b:Qh)(a:Int):Option Bool:=
 (QpL b a).bind (fun c=>QlX c)
theorem Qv4 (i a){r}(h:QlE i a=some r):Qc prog 132 [.agg (Qk i),.I a] [] (Gives (.b r) []):=by
 refine wk_ 18 func132 fun C e=>?_
 refine tg_ e [7] ?_
 obtain⟨k,l,h⟩:=Qb h
 replace h:QlX k=some r:=h
 refine AK.meetX (fun σ=>σ=⟨[(4,.b k)],[]⟩) ?_ ?_
 ·replace h:=l
  obtain⟨s,m,h⟩:=Qb h
  refine Qa e [1,.A (Qk i),.o (.C1 (.I s)),2] rfl (a2_ rfl (Qv1 _ m)) ?_
  rcases Qm h with⟨f,h⟩|⟨f,h⟩
  ·obtain⟨t,p,h⟩:=Qb h
   refine Qa e [.S 8 (.b true),.A (Qk i),.o (.C1 (.I t)),3] rfl ⟨⟨(tc_ f),rfl⟩,(QwV _ p)⟩ ?_
   rcases Qm h with⟨g,h⟩|⟨g,h⟩
   ·obtain⟨q,j,h⟩:=Qb h
    refine Qa e [.S 13 (.b true),.A (Qk i),1,.o (.C2 (.b q)),3,.K [4] []] rfl ⟨⟨(tc_ g),rfl⟩,(Qv3 _ _ j)⟩ ?_
    cases h
    exact mt_
   refine Qa e [.S 13 (.b false),6,.K [4] []] rfl (tc_ g) ?_
   cases h
   exact mt_
  refine Qa e [.S 8 (.b false),11,.K [4] []] rfl (tc_ f) ?_
  cases h
  exact mt_
 rintro σ rfl
 replace h:QlX k=some r:=h
 refine tg_ e [2] ?_
 cases h
 exact d1_ tt_
def Qlg (b:Int)(a:Int):Option (Int×Bool):=
 bif (bif (decide (0<a))then((decide ((w64 (9223372036854775807-a))<b))||((decide (a<0))&&(decide (b<(w64 ((-9223372036854775808)-a))))))else((decide (a<0))&&(decide (b<(w64 ((-9223372036854775808)-a))))))then
 some (0,false)
 else
 some ((w64 (b+a)),true)
theorem QxO (c a){r}(h:Qlg c a=some r):Qc prog 214 [.I c,.I a] [] (Gives (.tup [.I r.1,.b r.2]) []):=by
 refine wk_ 27 func214 fun C g=>?_
 unfold Qlg at h
 refine tg_ g [8] ?_
 refine AK.meetX (fun σ=>σ=⟨[(0,.I c),(1,.I a),(23,.b (bif (decide (0<a))then((decide ((w64 (9223372036854775807-a))<c))||((decide (a<0))&&(decide (c<(w64 ((-9223372036854775808)-a))))))else((decide (a<0))&&(decide (c<(w64 ((-9223372036854775808)-a)))))))],[]⟩) ?_ ?_
 ·refine tg_ g [4] ?_
  rcases QE (decide (0<a))with d | d
  ·refine Qa g [.S 8 (.b true),6] rfl (tc_ d) ?_
   rcases QE (decide ((w64 (9223372036854775807-a))<c))with i | i
   ·refine Qa g [.S 14 (.b true),10,.S 23 (.b (bif (decide (0<a))then((decide ((w64 (9223372036854775807-a))<c))||((decide (a<0))&&(decide (c<(w64 ((-9223372036854775808)-a))))))else((decide (a<0))&&(decide (c<(w64 ((-9223372036854775808)-a))))))),.K [0,1,23] []] rfl ⟨(tc_ i),(congrArg V.b (QlM d (orT i rfl)))⟩ ?_
    exact mt_
   refine Qa g [.S 14 (.b false),3] rfl (tc_ i) ?_
   rcases QE (decide (a<0))with e | e
   ·refine Qa g [.S 17 (.b true),7,.S 23 (.b (bif (decide (0<a))then((decide ((w64 (9223372036854775807-a))<c))||((decide (a<0))&&(decide (c<(w64 ((-9223372036854775808)-a))))))else((decide (a<0))&&(decide (c<(w64 ((-9223372036854775808)-a))))))),.K [0,1,23] []] rfl ⟨(tc_ e),(congrArg V.b (QlM d (orF i (Qaq e rfl))))⟩ ?_
    exact mt_
   refine Qa g [.S 17 (.b false),7,.S 23 (.b (bif (decide (0<a))then((decide ((w64 (9223372036854775807-a))<c))||((decide (a<0))&&(decide (c<(w64 ((-9223372036854775808)-a))))))else((decide (a<0))&&(decide (c<(w64 ((-9223372036854775808)-a))))))),.K [0,1,23] []] rfl ⟨(tc_ e),(congrArg V.b (QlM d (orF i (Qa4 e rfl))))⟩ ?_
   exact mt_
  refine Qa g [.S 8 (.b false),9] rfl (tc_ d) ?_
  rcases QE (decide (a<0))with f | f
  ·refine Qa g [.S 17 (.b true),7,.S 23 (.b (bif (decide (0<a))then((decide ((w64 (9223372036854775807-a))<c))||((decide (a<0))&&(decide (c<(w64 ((-9223372036854775808)-a))))))else((decide (a<0))&&(decide (c<(w64 ((-9223372036854775808)-a))))))),.K [0,1,23] []] rfl ⟨(tc_ f),(congrArg V.b (Qq9 d (Qaq f rfl)))⟩ ?_
   exact mt_
  refine Qa g [.S 17 (.b false),7,.S 23 (.b (bif (decide (0<a))then((decide ((w64 (9223372036854775807-a))<c))||((decide (a<0))&&(decide (c<(w64 ((-9223372036854775808)-a))))))else((decide (a<0))&&(decide (c<(w64 ((-9223372036854775808)-a))))))),.K [0,1,23] []] rfl ⟨(tc_ f),(congrArg V.b (Qq9 d (Qa4 f rfl)))⟩ ?_
  exact mt_
 rintro σ rfl
 refine tg_ g [1] ?_
 refine bq_ g h [.T,8,.K [4,5] []] rfl (fun j h=>?_) [.F,12,.K [4,5] []] rfl fun j h=>?_
 ·cases h
  exact d2_ tt_
 cases h
 exact d2_ tt_
def Qlh (b:Int)(a:Int):Option (Int×Bool):=
 bif (bif (decide (a<0))then((decide ((w64 (9223372036854775807+a))<b))||((decide (0<a))&&(decide (b<(w64 ((-9223372036854775808)+a))))))else((decide (0<a))&&(decide (b<(w64 ((-9223372036854775808)+a))))))then
 some (0,false)
 else
 some ((w64 (b-a)),true)
theorem QxP (c a){r}(h:Qlh c a=some r):Qc prog 215 [.I c,.I a] [] (Gives (.tup [.I r.1,.b r.2]) []):=by
 refine wk_ 27 func215 fun C g=>?_
 unfold Qlh at h
 refine tg_ g [8] ?_
 refine AK.meetX (fun σ=>σ=⟨[(0,.I c),(1,.I a),(23,.b (bif (decide (a<0))then((decide ((w64 (9223372036854775807+a))<c))||((decide (0<a))&&(decide (c<(w64 ((-9223372036854775808)+a))))))else((decide (0<a))&&(decide (c<(w64 ((-9223372036854775808)+a)))))))],[]⟩) ?_ ?_
 ·refine tg_ g [4] ?_
  rcases QE (decide (a<0))with d | d
  ·refine Qa g [.S 8 (.b true),6] rfl (tc_ d) ?_
   rcases QE (decide ((w64 (9223372036854775807+a))<c))with i | i
   ·refine Qa g [.S 14 (.b true),10,.S 23 (.b (bif (decide (a<0))then((decide ((w64 (9223372036854775807+a))<c))||((decide (0<a))&&(decide (c<(w64 ((-9223372036854775808)+a))))))else((decide (0<a))&&(decide (c<(w64 ((-9223372036854775808)+a))))))),.K [0,1,23] []] rfl ⟨(tc_ i),(congrArg V.b (QlM d (orT i rfl)))⟩ ?_
    exact mt_
   refine Qa g [.S 14 (.b false),3] rfl (tc_ i) ?_
   rcases QE (decide (0<a))with e | e
   ·refine Qa g [.S 17 (.b true),7,.S 23 (.b (bif (decide (a<0))then((decide ((w64 (9223372036854775807+a))<c))||((decide (0<a))&&(decide (c<(w64 ((-9223372036854775808)+a))))))else((decide (0<a))&&(decide (c<(w64 ((-9223372036854775808)+a))))))),.K [0,1,23] []] rfl ⟨(tc_ e),(congrArg V.b (QlM d (orF i (Qaq e rfl))))⟩ ?_
    exact mt_
   refine Qa g [.S 17 (.b false),7,.S 23 (.b (bif (decide (a<0))then((decide ((w64 (9223372036854775807+a))<c))||((decide (0<a))&&(decide (c<(w64 ((-9223372036854775808)+a))))))else((decide (0<a))&&(decide (c<(w64 ((-9223372036854775808)+a))))))),.K [0,1,23] []] rfl ⟨(tc_ e),(congrArg V.b (QlM d (orF i (Qa4 e rfl))))⟩ ?_
   exact mt_
  refine Qa g [.S 8 (.b false),9] rfl (tc_ d) ?_
  rcases QE (decide (0<a))with f | f
  ·refine Qa g [.S 17 (.b true),7,.S 23 (.b (bif (decide (a<0))then((decide ((w64 (9223372036854775807+a))<c))||((decide (0<a))&&(decide (c<(w64 ((-9223372036854775808)+a))))))else((decide (0<a))&&(decide (c<(w64 ((-9223372036854775808)+a))))))),.K [0,1,23] []] rfl ⟨(tc_ f),(congrArg V.b (Qq9 d (Qaq f rfl)))⟩ ?_
   exact mt_
  refine Qa g [.S 17 (.b false),7,.S 23 (.b (bif (decide (a<0))then((decide ((w64 (9223372036854775807+a))<c))||((decide (0<a))&&(decide (c<(w64 ((-9223372036854775808)+a))))))else((decide (0<a))&&(decide (c<(w64 ((-9223372036854775808)+a))))))),.K [0,1,23] []] rfl ⟨(tc_ f),(congrArg V.b (Qq9 d (Qa4 f rfl)))⟩ ?_
  exact mt_
 rintro σ rfl
 refine tg_ g [1] ?_
 refine bq_ g h [.T,8,.K [4,5] []] rfl (fun j h=>?_) [.F,12,.K [4,5] []] rfl fun j h=>?_
 ·cases h
  exact d2_ tt_
 cases h
 exact d2_ tt_
def QrM (c:Int)(d:Int)(a:Int)(b:Int):Option Bool:=
 bif (bif (decide (c<0))then((decide (0<d))||((decide (0<c))&&(decide (d<0))))else((decide (0<c))&&(decide (d<0))))then
 (chk (a != 0)).bind fun _=>
 bif (decide ((w64 (b-1))<=(w64 (Int.tdiv (w64 (9223372036854775807-(w64 (a-1)))) a))))then
 some ((w64 (b*a))==(-9223372036854775808))
 else
 some false
 else
 some false
def Qm9 (a:Bool):Option (Int×Bool):=
 bif a then
 some ((-9223372036854775808),true)
 else
 some (0,false)
def QfR (b:Int)(d:Int)(e:Int)(a:Int):Option (Int×Bool):=
 (chk (a != 0)).bind fun _=>
 bif (decide (b<=(w64 (Int.tdiv 9223372036854775807 a))))then
 some ((w64 (d*e)),true)
 else
 (QrM d e a b).bind (fun c=>Qm9 c)
def QhG (a:Int)(c:Int)(b:Int):Option (Int×Bool):=
 bif (decide (a<0))then
 QfR b c a (w64 (0-a))
 else
 QfR b c a a
def Qnu (a:Int)(b:Int):Option (Int×Bool):=
 bif ((a==0)||(b==0))then
 some (0,true)
 else
 bif ((a==(-9223372036854775808))||(b==(-9223372036854775808)))then
 bif ((a==1)||(b==1))then
 some ((w64 (a*b)),true)
 else
 some (0,false)
 else
 bif (decide (a<0))then
 QhG b a (w64 (0-a))
 else
 QhG b a a
theorem QxQ (c d){r}(h:Qnu c d=some r):Qc prog 216 [.I c,.I d] [] (Gives (.tup [.I r.1,.b r.2]) []):=by
 refine wk_ 78 func216 fun C a=>?_
 refine tg_ a [8] ?_
 refine AK.meetX (fun σ=>σ=⟨[(0,.I c),(1,.I d),(14,.b ((c==0)||(d==0)))],[]⟩) ?_ ?_
 ·refine tg_ a [4] ?_
  rcases QE (c==0)with m | m
  ·refine Qa a [.S 11 (.b true),4,.S 14 (.b ((c==0)||(d==0))),.K [0,1,14] []] rfl ⟨(tc_ m),(congrArg V.b (orT m rfl))⟩ ?_
   exact mt_
  refine Qa a [.S 11 (.b false),4,.S 14 (.b ((c==0)||(d==0))),.K [0,1,14] []] rfl ⟨(tc_ m),(congrArg V.b (orF m rfl))⟩ ?_
  exact mt_
 rintro σ rfl
 refine tg_ a [1] ?_
 refine bq_ a h [.T,8,.K [4,5] []] rfl (fun y h=>?_) [.F,4] rfl fun y h=>?_
 ·cases h
  exact d2_ tt_
 refine AK.meetX (fun σ=>σ=⟨[(0,.I c),(1,.I d),(20,.b ((c==(-9223372036854775808))||(d==(-9223372036854775808))))],[]⟩) ?_ ?_
 ·refine tg_ a [4] ?_
  rcases QE (c==(-9223372036854775808))with g | g
  ·refine Qa a [.S 17 (.b true),4,.S 20 (.b ((c==(-9223372036854775808))||(d==(-9223372036854775808)))),.K [0,1,20] []] rfl ⟨(tc_ g),(congrArg V.b (orT g rfl))⟩ ?_
   exact mt_
  refine Qa a [.S 17 (.b false),4,.S 20 (.b ((c==(-9223372036854775808))||(d==(-9223372036854775808)))),.K [0,1,20] []] rfl ⟨(tc_ g),(congrArg V.b (orF g rfl))⟩ ?_
  exact mt_
 rintro σ rfl
 refine tg_ a [1] ?_
 refine bq_ a h [.T,2] rfl (fun o h=>?_) [.F,8] rfl fun o h=>?_
 ·refine AK.meetX (fun σ=>σ=⟨[(0,.I c),(1,.I d),(26,.b ((c==1)||(d==1)))],[]⟩) ?_ ?_
  ·refine tg_ a [4] ?_
   rcases QE (c==1)with i | i
   ·refine Qa a [.S 23 (.b true),4,.S 26 (.b ((c==1)||(d==1))),.K [0,1,26] []] rfl ⟨(tc_ i),(congrArg V.b (orT i rfl))⟩ ?_
    exact mt_
   refine Qa a [.S 23 (.b false),4,.S 26 (.b ((c==1)||(d==1))),.K [0,1,26] []] rfl ⟨(tc_ i),(congrArg V.b (orF i rfl))⟩ ?_
   exact mt_
  rintro σ rfl
  refine tg_ a [1] ?_
  refine bq_ a h [.T,12,.K [4,5] []] rfl (fun p h=>?_) [.F,10,.K [4,5] []] rfl fun p h=>?_
  ·cases h
   exact d2_ tt_
  cases h
  exact d2_ tt_
 refine AK.meet (fun σ=>∃l:Int,σ=⟨[(0,.I c),(1,.I d),(6,.I l)],[]⟩/\QhG d c l=some r) ?_ ?_
 ·refine tg_ a [6] ?_
  refine bq_ a h [.T,5,.K [0,1,6] []] rfl (fun q h=>?_) [.F,1,.K [0,1,6] []] rfl fun q h=>?_
  ·exact AK.met (ex_ _ (an_ rfl h))
  exact AK.met (ex_ _ (an_ rfl h))
 rintro σ ⟨l,rfl,h⟩
 refine tg_ a [6] ?_
 refine AK.meet (fun σ=>∃x:Int,σ=⟨[(0,.I c),(1,.I d),(6,.I l),(7,.I x)],[]⟩/\QfR l c d x=some r) ?_ ?_
 ·refine tg_ a [6] ?_
  refine bq_ a h [.T,5,.K [0,1,6,7] []] rfl (fun s h=>?_) [.F,1,.K [0,1,6,7] []] rfl fun s h=>?_
  ·exact AK.met (ex_ _ (an_ rfl h))
  exact AK.met (ex_ _ (an_ rfl h))
 rintro σ ⟨x,rfl,h⟩
 unfold QfR at h
 refine tg_ a [1] ?_
 refine AK.meetX (fun σ=>σ=⟨[(0,.I c),(1,.I d),(6,.I l),(7,.I x),(8,.b (bif (decide (c<0))then((decide (0<d))||((decide (0<c))&&(decide (d<0))))else((decide (0<c))&&(decide (d<0)))))],[]⟩) ?_ ?_
 ·refine tg_ a [4] ?_
  rcases QE (decide (c<0))with e | e
  ·refine Qa a [.S 42 (.b true),4] rfl (tc_ e) ?_
   rcases QE (decide (0<d))with f | f
   ·refine Qa a [.S 46 (.b true),9,.S 8 (.b (bif (decide (c<0))then((decide (0<d))||((decide (0<c))&&(decide (d<0))))else((decide (0<c))&&(decide (d<0))))),.K [0,1,6,7,8] []] rfl ⟨(tc_ f),(congrArg V.b (QlM e (orT f rfl)))⟩ ?_
    exact mt_
   refine Qa a [.S 46 (.b false),3] rfl (tc_ f) ?_
   rcases QE (decide (0<c))with j | j
   ·refine Qa a [.S 49 (.b true),6,.S 8 (.b (bif (decide (c<0))then((decide (0<d))||((decide (0<c))&&(decide (d<0))))else((decide (0<c))&&(decide (d<0))))),.K [0,1,6,7,8] []] rfl ⟨(tc_ j),(congrArg V.b (QlM e (orF f (Qaq j rfl))))⟩ ?_
    exact mt_
   refine Qa a [.S 49 (.b false),6,.S 8 (.b (bif (decide (c<0))then((decide (0<d))||((decide (0<c))&&(decide (d<0))))else((decide (0<c))&&(decide (d<0))))),.K [0,1,6,7,8] []] rfl ⟨(tc_ j),(congrArg V.b (QlM e (orF f (Qa4 j rfl))))⟩ ?_
   exact mt_
  refine Qa a [.S 42 (.b false),7] rfl (tc_ e) ?_
  rcases QE (decide (0<c))with k | k
  ·refine Qa a [.S 49 (.b true),6,.S 8 (.b (bif (decide (c<0))then((decide (0<d))||((decide (0<c))&&(decide (d<0))))else((decide (0<c))&&(decide (d<0))))),.K [0,1,6,7,8] []] rfl ⟨(tc_ k),(congrArg V.b (Qq9 e (Qaq k rfl)))⟩ ?_
   exact mt_
  refine Qa a [.S 49 (.b false),6,.S 8 (.b (bif (decide (c<0))then((decide (0<d))||((decide (0<c))&&(decide (d<0))))else((decide (0<c))&&(decide (d<0))))),.K [0,1,6,7,8] []] rfl ⟨(tc_ k),(congrArg V.b (Qq9 e (Qa4 k rfl)))⟩ ?_
  exact mt_
 rintro σ rfl
 obtain⟨A,h⟩:=QaV h
 refine Qa a [10] rfl (a1_ (neZ A)) ?_
 refine bq_ a h [.T,11,.K [4,5] []] rfl (fun t h=>?_) [.F,4] rfl fun t h=>?_
 ·cases h
  exact d2_ tt_
 obtain⟨z,B,h⟩:=Qb h
 replace h:Qm9 z=some r:=h
 refine AK.meetX (fun σ=>σ=⟨[(77,.b z)],[]⟩) ?_ ?_
 ·replace h:=B
  refine tg_ a [3] ?_
  rcases Qm h with⟨u,h⟩|⟨u,h⟩
  ·obtain⟨D,h⟩:=QaV h
   refine Qa a [.S 62 (.b true),10] rfl ⟨(tc_ u),(neZ D)⟩ ?_
   refine bg_ h (fun v h=>Qa a [.S 72 (.b true),6,.K [77] []] rfl (tc_ v) ?_) fun v h=>Qa a [.S 72 (.b false),6,.K [77] []] rfl (tc_ v) ?_
   ·cases h
    exact mt_
   cases h
   exact mt_
  refine Qa a [.S 62 (.b false),16,.K [77] []] rfl (tc_ u) ?_
  cases h
  exact mt_
 rintro σ rfl
 replace h:Qm9 z=some r:=h
 refine tg_ a [1] ?_
 refine bq_ a h [.T,8,.K [4,5] []] rfl (fun w h=>?_) [.F,9,.K [4,5] []] rfl fun w h=>?_
 ·cases h
  exact d2_ tt_
 cases h
 exact d2_ tt_
def QdS (a:Bool):Option Int:=
 bif a then
 some 1
 else
 some 0
theorem QdG (c){r}(h:QdS c=some r):Qc prog 217 [.b c] [] (Gives (.I r) []):=by
 refine wk_ 4 func217 fun C d=>?_
 refine tg_ d [11] ?_
 refine bq_ d h [.T,7,.K [2] []] rfl (fun a h=>?_) [.F,8,.K [2] []] rfl fun a h=>?_
 ·cases h
  exact d1_ tt_
 cases h
 exact d1_ tt_
def Qgy (b:Int)(a:Bool):Option (Int×Int):=
 bif (!a)then
 some (0,6)
 else
 some (b,0)
def Qtd (c:Int)(d:Int):Option Int:=
 bif (c != 0)then
 (QdS (d != 0)).bind fun a=>
 some a
 else
 (QdS false).bind fun b=>
 some b
def QlF (a:Int):Option (Int×Int):=
 some (a,0)
def Qte (c:Int)(d:Int):Option Int:=
 bif (c != 0)then
 (QdS true).bind fun a=>
 some a
 else
 (QdS (d != 0)).bind fun b=>
 some b
def QlG (a:Int):Option (Int×Int):=
 some (a,0)
def Qgz (a:Int)(b:Int)(op1:Int)(c:Bool):Option (Int×Int):=
 bif c then
 bif (a==0)then
 some (0,7)
 else
 bif ((b==(-9223372036854775808))&&(a==(-1)))then
 some (0,6)
 else
 bif (op1==4)then
 (chk (a != 0)).bind fun _=>
 some ((w64 (Int.tdiv b a)),0)
 else
 (chk (a != 0)).bind fun _=>
 some ((Int.tmod b a),0)
 else
 bif (op1==6)then
 (QdS (b==a)).bind fun d=>
 some (d,0)
 else
 bif (op1==7)then
 (QdS (b != a)).bind fun e=>
 some (e,0)
 else
 bif (op1==8)then
 (QdS (decide (b<a))).bind fun f=>
 some (f,0)
 else
 bif (op1==9)then
 (QdS (decide (b<=a))).bind fun g=>
 some (g,0)
 else
 bif (op1==10)then
 (Qtd b a).bind (fun h=>QlF h)
 else
 bif (op1==11)then
 (Qte b a).bind (fun i=>QlG i)
 else
 some (0,1)
def Qdt (op1:Int)(a:Int)(b:Int):Option (Int×Int):=
 bif (op1==1)then
 (Qlg a b).bind fun c=>
 Qgy c.1 c.2
 else
 bif (op1==2)then
 (Qlh a b).bind fun d=>
 Qgy d.1 d.2
 else
 bif (op1==3)then
 (Qnu a b).bind fun e=>
 Qgy e.1 e.2
 else
 bif (op1==4)then
 Qgz b a op1 (op1==4)
 else
 Qgz b a op1 (op1==5)
theorem Qtf (op1 A B){r}(h:Qdt op1 A B=some r):Qc prog 186 [.I op1,.I A,.I B] [] (Gives (.tup [.I r.1,.I r.2]) []):=by
 refine wk_ 99 func186 fun C a=>?_
 refine tg_ a [16] ?_
 refine AK.meet (fun σ=>∃n8:Int,∃D:Bool,σ=⟨[(8,.I n8),(9,.b D)],[]⟩/\Qgy n8 D=some r) ?_ ?_
 ·refine tg_ a [12] ?_
  rcases Qm h with⟨f,h⟩|⟨f,h⟩
  ·obtain⟨J,L,h⟩:=Qb h
   refine Qa a [.T,3,.o (.C2 (.tup [.I J.1,.b J.2])),7,.K [8,9] []] rfl (a2_ f (QxO _ _ L)) ?_
   exact AK.met (ex_ _ (ex_ _ (an_ rfl h)))
  refine Qa a [.F,6] rfl (a1_ f) ?_
  rcases Qm h with⟨g,h⟩|⟨g,h⟩
  ·obtain⟨M,N,h⟩:=Qb h
   refine Qa a [.T,3,.o (.C2 (.tup [.I M.1,.b M.2])),7,.K [8,9] []] rfl (a2_ g (QxP _ _ N)) ?_
   exact AK.met (ex_ _ (ex_ _ (an_ rfl h)))
  refine Qa a [.F,6] rfl (a1_ g) ?_
  rcases Qm h with⟨i,h⟩|⟨i,h⟩
  ·obtain⟨O,P,h⟩:=Qb h
   refine Qa a [.T,3,.o (.C2 (.tup [.I O.1,.b O.2])),7,.K [8,9] []] rfl (a2_ i (QxQ _ _ P)) ?_
   exact AK.met (ex_ _ (ex_ _ (an_ rfl h)))
  refine Qa a [.F] rfl (a1_ i) ?_
  refine AK.meet (fun σ=>∃E:Bool,σ=⟨[(0,.I op1),(1,.I A),(2,.I B),(10,.I op1),(35,.b E)],[]⟩/\Qgz B A op1 E=some r) ?_ ?_
  ·refine tg_ a [6] ?_
   refine bq_ a h [.T,1,.K [0,1,2,10,35] []] rfl (fun j h=>?_) [.F,4,.K [0,1,2,10,35] []] rfl fun j h=>?_
   ·exact AK.met (ex_ _ (an_ rfl h))
   exact AK.met (ex_ _ (an_ rfl h))
  rintro σ ⟨E,rfl,h⟩
  refine bq_ a h [.T,7] rfl (fun k h=>?_) [.F,6] rfl fun k h=>?_
  ·refine bq_ a h [.T,10,.K [6,7] []] rfl (fun l h=>?_) [.F,4] rfl fun l h=>?_
   ·cases h
    exact d2_ tt_
   refine AK.meetX (fun σ=>σ=⟨[(0,.I op1),(1,.I A),(2,.I B),(45,.b ((A==(-9223372036854775808))&&(B==(-1))))],[]⟩) ?_ ?_
   ·refine tg_ a [4] ?_
    rcases QE (A==(-9223372036854775808))with e | e
    ·refine Qa a [.S 42 (.b true),4,.S 45 (.b ((A==(-9223372036854775808))&&(B==(-1)))),.K [0,1,2,45] []] rfl ⟨(tc_ e),(congrArg V.b (Qaq e rfl))⟩ ?_
     exact mt_
    refine Qa a [.S 42 (.b false),4,.S 45 (.b ((A==(-9223372036854775808))&&(B==(-1)))),.K [0,1,2,45] []] rfl ⟨(tc_ e),(congrArg V.b (Qa4 e rfl))⟩ ?_
    exact mt_
   rintro σ rfl
   refine tg_ a [1] ?_
   refine bq_ a h [.T,10,.K [6,7] []] rfl (fun m h=>?_) [.F,9] rfl fun m h=>?_
   ·cases h
    exact d2_ tt_
   rcases Qm h with⟨p,h⟩|⟨p,h⟩
   ·obtain⟨U,h⟩:=QaV h
    refine Qa a [.T,13] rfl (a2_ p (neZ U)) ?_
    cases h
    exact d2_ tt_
   obtain⟨W,h⟩:=QaV h
   refine Qa a [.F,14] rfl (a2_ p (neZ W)) ?_
   cases h
   exact d2_ tt_
  rcases Qm h with⟨q,h⟩|⟨q,h⟩
  ·obtain⟨a8,X,h⟩:=Qb h
   refine Qa a [.T,5,.o (.C1 (.I a8)),7] rfl (a2_ q (QdG _ X)) ?_
   cases h
   exact d2_ tt_
  refine Qa a [.F,6] rfl (a1_ q) ?_
  rcases Qm h with⟨s,h⟩|⟨s,h⟩
  ·obtain⟨a9,Y,h⟩:=Qb h
   refine Qa a [.T,5,.o (.C1 (.I a9)),7] rfl (a2_ s (QdG _ Y)) ?_
   cases h
   exact d2_ tt_
  refine Qa a [.F,6] rfl (a1_ s) ?_
  rcases Qm h with⟨t,h⟩|⟨t,h⟩
  ·obtain⟨b0,Z,h⟩:=Qb h
   refine Qa a [.T,5,.o (.C1 (.I b0)),7] rfl (a2_ t (QdG _ Z)) ?_
   cases h
   exact d2_ tt_
  refine Qa a [.F,6] rfl (a1_ t) ?_
  rcases Qm h with⟨u,h⟩|⟨u,h⟩
  ·obtain⟨b1,a0,h⟩:=Qb h
   refine Qa a [.T,5,.o (.C1 (.I b1)),7] rfl (a2_ u (QdG _ a0)) ?_
   cases h
   exact d2_ tt_
  refine Qa a [.F,6] rfl (a1_ u) ?_
  refine bq_ a h [.T,1] rfl (fun v h=>?_) [.F,6] rfl fun v h=>?_
  ·obtain⟨G,a1,h⟩:=Qb h
   replace h:QlF G=some r:=h
   refine AK.meetX (fun σ=>σ=⟨[(6,.I G),(7,.I 0)],[]⟩) ?_ ?_
   ·replace h:=a1
    refine tg_ a [4] ?_
    rcases Qm h with⟨w,h⟩|⟨w,h⟩
    ·obtain⟨b2,a3,h⟩:=Qb h
     refine Qa a [.S 82 (.b true),3,.o (.C1 (.I b2)),3,.K [6,7] []] rfl ⟨(tc_ w),(QdG _ a3)⟩ ?_
     cases h
     exact mt_
    obtain⟨b4,a4,h⟩:=Qb h
    refine Qa a [.S 82 (.b false),3,.o (.C1 (.I b4)),3,.K [6,7] []] rfl ⟨(tc_ w),(QdG _ a4)⟩ ?_
    cases h
    exact mt_
   rintro σ rfl
   replace h:QlF G=some r:=h
   refine tg_ a [4] ?_
   cases h
   exact d2_ tt_
  refine bq_ a h [.T,1] rfl (fun x h=>?_) [.F,9,.K [6,7] []] rfl fun x h=>?_
  ·obtain⟨H,a5,h⟩:=Qb h
   replace h:QlG H=some r:=h
   refine AK.meetX (fun σ=>σ=⟨[(6,.I H),(7,.I 0)],[]⟩) ?_ ?_
   ·replace h:=a5
    refine tg_ a [4] ?_
    rcases Qm h with⟨y,h⟩|⟨y,h⟩
    ·obtain⟨b5,a6,h⟩:=Qb h
     refine Qa a [.S 91 (.b true),3,.o (.C1 (.I b5)),3,.K [6,7] []] rfl ⟨(tc_ y),(QdG _ a6)⟩ ?_
     cases h
     exact mt_
    obtain⟨b6,a7,h⟩:=Qb h
    refine Qa a [.S 91 (.b false),3,.o (.C1 (.I b6)),3,.K [6,7] []] rfl ⟨(tc_ y),(QdG _ a7)⟩ ?_
    cases h
    exact mt_
   rintro σ rfl
   replace h:QlG H=some r:=h
   refine tg_ a [4] ?_
   cases h
   exact d2_ tt_
  cases h
  exact d2_ tt_
 rintro σ ⟨n8,D,rfl,h⟩
 refine tg_ a [7] ?_
 refine bq_ a h [.T,8,.K [6,7] []] rfl (fun z h=>?_) [.F,10,.K [6,7] []] rfl fun z h=>?_
 ·cases h
  exact d2_ tt_
 cases h
 exact d2_ tt_
def QkH (rec_ref04_eval:Qh->(List Int)->Option (Int×Int))(c:Qh)(a:(List Int)):Option (Int×Int):=
 bif (c.Kind==1)then
 some (c.Num,0)
 else
 bif (c.Kind==2)then
 (idx a c.Num).bind fun m=>
 some (m,0)
 else
 (idx c.Kids 0).bind fun i=>
 (rec_ref04_eval i a).bind fun b=>
 bif (b.2 != 0)then
 some (0,b.2)
 else
 bif (c.Kind==3)then
 (Qdt 2 0 b.1).bind fun e=>
 some (e.1,e.2)
 else
 bif (c.Kind==4)then
 bif (b.1==0)then
 some (1,0)
 else
 some (0,0)
 else
 bif (c.Kind==6)then
 bif (b.1 != 0)then
 (idx c.Kids 1).bind fun j=>
 (rec_ref04_eval j a).bind fun f=>
 some (f.1,f.2)
 else
 (idx c.Kids 2).bind fun k=>
 (rec_ref04_eval k a).bind fun g=>
 some (g.1,g.2)
 else
 bif ((c.Num==10)&&(b.1==0))then
 some (0,0)
 else
 bif ((c.Num==11)&&(b.1 != 0))then
 some (1,0)
 else
 (idx c.Kids 1).bind fun l=>
 (rec_ref04_eval l a).bind fun d=>
 bif (d.2 != 0)then
 some (0,d.2)
 else
 (Qdt c.Num b.1 d.1).bind fun h=>
 some (h.1,h.2)
def QeK : Nat->Qh->(List Int)->Option (Int×Int)
 | 0,_,_=>none
 | n+1,b,a=>QkH (QeK n) b a
def QpM (b:Qh)(a:(List Int)):Option (Int×Int):=QeK (SizeOf.sizeOf b) b a
theorem Qvc (rec_ref04_eval:Qh->(List Int)->Option (Int×Int))(hrec_ref04_eval:∀(j:Qh) (e:(List Int)) {r:(Int×Int)},rec_ref04_eval j e=some r->Qc prog 133 [.agg (Qk j),.sl 1 (e.map Qe)] [] (Gives (.tup [.I r.1,.I r.2]) []))(j:Qh)(e:(List Int)){r:(Int×Int)}(h:QkH rec_ref04_eval j e=some r):Qc prog 133 [.agg (Qk j),.sl 1 (e.map Qe)] [] (Gives (.tup [.I r.1,.I r.2]) []):=by
 refine wk_ 100 func133 fun C a=>?_
 refine tg_ a [21] ?_
 refine bq_ a h [.T,11,.K [4,5] []] rfl (fun x h=>?_) [.F,6] rfl fun x h=>?_
 ·cases h
  exact d2_ tt_
 rcases Qm h with⟨y,h⟩|⟨y,h⟩
 ·obtain⟨e9,a1,h⟩:=Qb h
  refine Qa a [.T,5,.o (.row (Qe e9)),8] rfl (a2_ y (QJ a1)) ?_
  cases h
  exact d2_ tt_
 obtain⟨z,A,h⟩:=Qb h
 obtain⟨f,B,h⟩:=Qb h
 refine Qa a [.F,7,.o (.row (Qk z)),.A (Qk z),1,.o (.C2 (.tup [.I f.1,.I f.2])),14] rfl (a4_ y (Qbq A) rfl (hrec_ref04_eval _ _ B)) ?_
 refine bq_ a h [.T,9,.K [4,5] []] rfl (fun k h=>?_) [.F,16] rfl fun k h=>?_
 ·cases h
  exact d2_ tt_
 rcases Qm h with⟨l,h⟩|⟨l,h⟩
 ·obtain⟨D,E,h⟩:=Qb h
  refine Qa a [.T,3,.o (.C3 (.tup [.I D.1,.I D.2])),9] rfl (a2_ l (Qtf _ _ _ E)) ?_
  cases h
  exact d2_ tt_
 refine Qa a [.F,6] rfl (a1_ l) ?_
 refine bq_ a h [.T,7] rfl (fun m h=>?_) [.F,6] rfl fun m h=>?_
 ·refine bq_ a h [.T,10,.K [4,5] []] rfl (fun p h=>?_) [.F,11,.K [4,5] []] rfl fun p h=>?_
  ·cases h
   exact d2_ tt_
  cases h
  exact d2_ tt_
 refine bq_ a h [.T,7] rfl (fun q h=>?_) [.F,5] rfl fun q h=>?_
 ·rcases Qm h with⟨s,h⟩|⟨s,h⟩
  ·obtain⟨G,H,h⟩:=Qb h
   obtain⟨J,L,h⟩:=Qb h
   refine Qa a [.T,4,.o (.row (Qk G)),.A (Qk G),1,.o (.C2 (.tup [.I J.1,.I J.2])),10] rfl (a4_ s (Qbq H) rfl (hrec_ref04_eval _ _ L)) ?_
   cases h
   exact d2_ tt_
  obtain⟨M,N,h⟩:=Qb h
  obtain⟨O,P,h⟩:=Qb h
  refine Qa a [.F,6,.o (.row (Qk M)),.A (Qk M),1,.o (.C2 (.tup [.I O.1,.I O.2])),9] rfl (a4_ s (Qbq N) rfl (hrec_ref04_eval _ _ P)) ?_
  cases h
  exact d2_ tt_
 refine AK.meetX (fun σ=>σ=⟨[(1,.sl 1 (e.map Qe)),lk_ 2,(6,.I f.1),(73,.b ((j.Num==10)&&(f.1==0)))],[(2,.var (Qk j))]⟩) ?_ ?_
 ·refine tg_ a [5] ?_
  rcases QE (j.Num==10)with g | g
  ·refine Qa a [.S 70 (.b true),4,.S 73 (.b ((j.Num==10)&&(f.1==0))),.K [1,2,6,73] [2]] rfl ⟨(tc_ g),(congrArg V.b (Qaq g rfl))⟩ ?_
   exact mt_
  refine Qa a [.S 70 (.b false),4,.S 73 (.b ((j.Num==10)&&(f.1==0))),.K [1,2,6,73] [2]] rfl ⟨(tc_ g),(congrArg V.b (Qa4 g rfl))⟩ ?_
  exact mt_
 rintro σ rfl
 refine tg_ a [1] ?_
 refine bq_ a h [.T,8,.K [4,5] []] rfl (fun t h=>?_) [.F,4] rfl fun t h=>?_
 ·cases h
  exact d2_ tt_
 refine AK.meetX (fun σ=>σ=⟨[(1,.sl 1 (e.map Qe)),lk_ 2,(6,.I f.1),(80,.b ((j.Num==11)&&(f.1 != 0)))],[(2,.var (Qk j))]⟩) ?_ ?_
 ·refine tg_ a [5] ?_
  rcases QE (j.Num==11)with i | i
  ·refine Qa a [.S 77 (.b true),4,.S 80 (.b ((j.Num==11)&&(f.1 != 0))),.K [1,2,6,80] [2]] rfl ⟨(tc_ i),(congrArg V.b (Qaq i rfl))⟩ ?_
   exact mt_
  refine Qa a [.S 77 (.b false),4,.S 80 (.b ((j.Num==11)&&(f.1 != 0))),.K [1,2,6,80] [2]] rfl ⟨(tc_ i),(congrArg V.b (Qa4 i rfl))⟩ ?_
  exact mt_
 rintro σ rfl
 refine tg_ a [1] ?_
 rcases Qm h with⟨u,h⟩|⟨u,h⟩
 ·refine Qa a [.T,8] rfl (a1_ u) ?_
  cases h
  exact d2_ tt_
 obtain⟨U,W,h⟩:=Qb h
 obtain⟨X,Y,h⟩:=Qb h
 refine Qa a [.F,6,.o (.row (Qk U)),.A (Qk U),1,.o (.C2 (.tup [.I X.1,.I X.2])),14] rfl (a4_ u (Qbq W) rfl (hrec_ref04_eval _ _ Y)) ?_
 rcases Qm h with⟨w,h⟩|⟨w,h⟩
 ·refine Qa a [.T,9] rfl (a1_ w) ?_
  cases h
  exact d2_ tt_
 obtain⟨Z,a0,h⟩:=Qb h
 refine Qa a [.F,8,.o (.C3 (.tup [.I Z.1,.I Z.2])),7] rfl (a2_ w (Qtf _ _ _ a0)) ?_
 cases h
 exact d2_ tt_
theorem Qom : ∀(fuel:Nat) (b:Qh) (a:(List Int)) {r:(Int×Int)},QeK fuel b a=some r->Qc prog 133 [.agg (Qk b),.sl 1 (a.map Qe)] [] (Gives (.tup [.I r.1,.I r.2]) [])
 | 0,_,_,_,h=>by cases h
 | n+1,b,a,_,h=>Qvc (QeK n) (fun _ _ _ h=>Qom n _ _ h) b a h
theorem QwW (b a){r}(h:QpM b a=some r):Qc prog 133 [.agg (Qk b),.sl 1 (a.map Qe)] [] (Gives (.tup [.I r.1,.I r.2]) []):=Qom _ b a h
def Qj8 (b:Qh)(a:(List Int)):Option (Int×Int):=
 (QlE b (a.length:Int)).bind fun d=>
 bif (!d)then
 some (0,1)
 else
 (QpM b a).bind fun c=>
 some (c.1,c.2)
theorem QqU (f a){r}(h:Qj8 f a=some r):Qc prog 70 [.agg (Qk f),.sl 1 (a.map Qe)] [] (Gives (.tup [.I r.1,.I r.2]) []):=by
 refine wk_ 18 func70 fun C g=>?_
 obtain⟨l,i,h⟩:=Qb h
 refine Qa g [9,.A (Qk f),1,.o (.ln a.length),.o (.C2 (.b l)),10] rfl (a3_ rfl Qf (Qv4 _ _ i)) ?_
 rcases Qm h with⟨e,h⟩|⟨e,h⟩
 ·refine Qa g [.T,8] rfl (a1_ e) ?_
  cases h
  exact d2_ tt_
 obtain⟨k,j,h⟩:=Qb h
 refine Qa g [.F,4,.A (Qk f),1,.o (.C2 (.tup [.I k.1,.I k.2])),7] rfl (a3_ e rfl (QwW _ _ j)) ?_
 cases h
 exact d2_ tt_
def QqV (c:(List Int))(d:(List Int))(a:Int):Option (Int⊕(Unit⊕Unit)):=
 bif (decide (a<(c.length:Int)))then
 (idx c a).bind fun e=>
 (idx d a).bind fun b=>
 bif (e != b)then
 some (.inr (.inl ()))
 else
 some (.inl (w64 (a+1)))
 else
 some (.inr (.inr ()))
def QqW : Option Bool:=
 some false
def QqX : Option Bool:=
 some true
def QhH (a:(List Int))(b:(List Int)):Option Bool:=
 bif ((a.length:Int) != (b.length:Int))then
 some false
 else
 (Qz (fun st=>QqV a b st) 0).bind (Sum.elim (fun q=>QqW) (fun q=>QqX))
theorem QjB (i j){r}(h:QhH i j=some r):Qc prog 68 [.sl 1 (i.map Qe),.sl 1 (j.map Qe)] [] (Gives (.b r) []):=by
 refine wk_ 26 func68 fun C c=>?_
 refine Qa c [9,.o (.ln i.length),1,.o (.ln j.length),3] rfl (a2_ Qf Qf) ?_
 refine bq_ c h [.T,7,.K [4] []] rfl (fun f h=>?_) [.F,9,.K [0,1,5] []] rfl fun f h=>?_
 ·cases h
  exact d1_ tt_
 obtain⟨m,k,h⟩:=Qb h
 refine AK.loop (body:=(fun st=>QqV i j st)) (fun st σ=>σ=⟨[(0,.sl 1 (i.map Qe)),(1,.sl 1 (j.map Qe)),(5,.I st)],[]⟩) (Sum.elim (fun q e σ=>e=.ret/\σ=⟨[(4,.b false)],[]⟩) (fun q e σ=>e=.exit 0/\σ=⟨[],[]⟩)) k rfl ?_ ?_
 ·rintro u o σ rfl h
  refine Qa c [5,.o (.ln i.length),3] rfl (a1_ Qf) ?_
  rcases Qm h with⟨g,h⟩|⟨g,h⟩
  ·obtain⟨t,p,h⟩:=Qb h
   obtain⟨s,l,h⟩:=Qb h
   refine Qa c [.T,5,.K [0,1,5] []] rfl (a1_ g) ?_
   refine AK.draw2 Qo c mixed [.N,.N,.a (.row (Qe t)) none false,.N,.N,.N,.a (.row (Qe s)) none false,.N,.N] [] [] [0,1,5,25] [] rfl rfl rfl ⟨⟨tt_,(QJ p)⟩,(QJ l)⟩ rfl (by kernel_rfl) rfl rfl rfl ?_
   refine tg_ c [1] ?_
   refine bq_ c h [.T,8,.K [4] []] rfl (fun d h=>?_) [.F,8,.K [0,1,5] []] rfl fun d h=>?_
   ·cases h
    exact Qah rfl (an_ rfl rfl)
   cases h
   exact QY rfl rfl
  refine Qa c [.F,2,.K [] []] rfl (a1_ g) ?_
  cases h
  exact QZ rfl (an_ rfl rfl)
 rcases m with(_ | _)
 ·replace h:QqW=some r:=h
  rintro e σ ⟨rfl,rfl⟩
  refine tg_ c [2] ?_
  cases h
  exact d1_ tt_
 replace h:QqX=some r:=h
 rintro e σ ⟨rfl,rfl⟩
 refine tg_ c [8] ?_
 cases h
 exact d1_ tt_
def Qc8 (e:QLL)(a:(List Int))(b:Int):Option (Int⊕(Unit⊕Unit)):=
 bif (decide (b<(e.length:Int)))then
 (idx e b).bind fun c=>
 (QhH c a).bind fun d=>
 bif d then
 some (.inr (.inl ()))
 else
 some (.inl (w64 (b+1)))
 else
 some (.inr (.inr ()))
def Qon : Option Bool:=
 some true
def Qoo : Option Bool:=
 some false
def QhI (a:Int)(b:Int)(c:(List Int)):Option Bool:=
 (Qdf a b).bind fun d=>
 (Qz (fun st=>Qc8 d c st) 0).bind (Sum.elim (fun q=>Qon) (fun q=>Qoo))
theorem Qop (f g a){r}(h:QhI f g a=some r):Qc prog 71 [.I f,.I g,.sl 1 (a.map Qe)] [] (Gives (.b r) []):=by
 refine wk_ 24 func71 fun C j=>?_
 obtain⟨m,t,h⟩:=Qb h
 refine Qa j [9,.o (.co false [.d,.d] 1 (m.map Qu) m.length),10,.K [2,7,8] [11]] rfl (a1_ ⟨(Qj6 _ _ t),Qf,.inl rfl⟩) ?_
 obtain⟨u,p,h⟩:=Qb h
 refine AK.loop (body:=(fun st=>Qc8 m a st)) (fun st σ=>σ=⟨[(2,.sl 1 (a.map Qe)),(7,.own 11 m.length),(8,.I st)],[(11,.arr 1 (m.map Qu))]⟩) (Sum.elim (fun q e σ=>e=.ret/\σ=⟨[(6,.b true)],[]⟩) (fun q e σ=>e=.exit 0/\σ=⟨[],[]⟩)) p rfl ?_ ?_
 ·rintro x o σ rfl h
  refine tg_ j [9] ?_
  rcases Qm h with⟨l,h⟩|⟨l,h⟩
  ·obtain⟨v,k,h⟩:=Qb h
   obtain⟨w,s,h⟩:=Qb h
   refine Qa j [.T,9,.o (.row (Qu v)),1,.o (.C2 (.b w)),2] rfl (a4_ l (QdK k rfl) (Qcb (Qcq k).2) (QjB _ _ s)) ?_
   refine bq_ j h [.T,8,.K [6] []] rfl (fun i h=>?_) [.F,8,.K [2,7,8] [11]] rfl fun i h=>?_
   ·cases h
    exact Qah rfl (an_ rfl rfl)
   cases h
   exact QY rfl rfl
  refine Qa j [.F,2,.K [] []] rfl (a1_ l) ?_
  cases h
  exact QZ rfl (an_ rfl rfl)
 rcases u with(_ | _)
 ·replace h:Qon=some r:=h
  rintro e σ ⟨rfl,rfl⟩
  refine tg_ j [2] ?_
  cases h
  exact d1_ tt_
 replace h:Qoo=some r:=h
 rintro e σ ⟨rfl,rfl⟩
 refine tg_ j [8] ?_
 cases h
 exact d1_ tt_
def Qcp (c:Int)(a:Int)(d:Int)(b:Int):Option (Int⊕(Int⊕Unit)):=
 bif (decide (b<c))then
 bif ((w64 (a+b))==d)then
 some (.inr (.inl b))
 else
 some (.inl (w64 (b+1)))
 else
 some (.inr (.inr ()))
def Qoq (a:Int):Option (Int×Bool):=
 some (a,true)
def Qor : Option (Int×Bool):=
 some (0,false)
def Qeb (b:Int)(c:Int)(a:Int):Option (Int×Bool):=
 (Qz (fun st=>Qcp b a c st) 0).bind (Sum.elim (fun q=>Qoq q) (fun q=>Qor))
def Qos (b:Int)(c:(List QD))(d:Int):Option Bool:=
 bif (decide (0<b))then
 (idx c d).bind fun a=>
 some (a.Kind==1)
 else
 some false
def Qhl (e:(List QD))(f:Int)(c:Int)(d:Int)(a:Bool):Option (Int×Bool):=
 bif a then
 (idx e f).bind fun b=>
 Qeb c d b.Lo
 else
 Qeb c d 0
def QkI (a:(List QD))(b:Int)(e:Int):Option (Int×Bool):=
 (Qe2 a b).bind fun d=>
 (Qos d a b).bind (fun c=>Qhl a b d e c)
theorem Qvd (s t l){r}(h:QkI s t l=some r):Qc prog 135 [.sl 7 (s.map Qq),.I t,.I l] [] (Gives (.tup [.I r.1,.b r.2]) []):=by
 refine wk_ 40 func135 fun C f=>?_
 obtain⟨m,y,h⟩:=Qb h
 refine Qa f [10,.o (.C2 (.I m)),8] rfl (a1_ (QmI _ _ y)) ?_
 refine AK.meet (fun σ=>∃a:Int,σ=⟨[(2,.I l),(8,.I m),(9,.I a)],[]⟩/\Qeb m l a=some r) ?_ ?_
 ·refine tg_ f [1] ?_
  obtain⟨p,u,h⟩:=Qb h
  replace h:Qhl s t m l p=some r:=h
  refine AK.meetX (fun σ=>σ=⟨[(0,.sl 7 (s.map Qq)),(1,.I t),(2,.I l),(8,.I m),(9,.I 0),(23,.b p)],[]⟩) ?_ ?_
  ·replace h:=u
   refine tg_ f [4] ?_
   rcases Qm h with⟨g,h⟩|⟨g,h⟩
   ·obtain⟨z,v,h⟩:=Qb h
    refine Qa f [.S 16 (.b true),2,.o (.row (Qq z)),5,.K [0,1,2,8,9,23] []] rfl ⟨(tc_ g),(QJ v)⟩ ?_
    cases h
    exact mt_
   refine Qa f [.S 16 (.b false),8,.K [0,1,2,8,9,23] []] rfl (tc_ g) ?_
   cases h
   exact mt_
  rintro σ rfl
  replace h:Qhl s t m l p=some r:=h
  refine tg_ f [1] ?_
  rcases Qm h with⟨i,h⟩|⟨i,h⟩
  ·obtain⟨A,w,h⟩:=Qb h
   refine Qa f [.T,3,.o (.row (Qq A)),4,.K [2,8,9] []] rfl (a2_ i (QJ w)) ?_
   exact AK.met (ex_ _ (an_ rfl h))
  refine Qa f [.F,1,.K [2,8,9] []] rfl (a1_ i) ?_
  exact AK.met (ex_ _ (an_ rfl h))
 rintro σ ⟨a,rfl,h⟩
 refine tg_ f [7,.K [2,8,9,10] []] ?_
 obtain⟨B,x,h⟩:=Qb h
 refine AK.loop (body:=(fun st=>Qcp m a l st)) (fun st σ=>σ=⟨[(2,.I l),(8,.I m),(9,.I a),(10,.I st)],[]⟩) (Sum.elim (fun q e σ=>e=.ret/\σ=⟨[(6,.I q),(7,.b true)],[]⟩) (fun q e σ=>e=.exit 0/\σ=⟨[],[]⟩)) x rfl ?_ ?_
 ·rintro E o σ rfl h
  refine tg_ f [8] ?_
  refine bq_ f h [.T,13] rfl (fun j h=>?_) [.F,2,.K [] []] rfl fun j h=>?_
  ·refine bq_ f h [.T,10,.K [6,7] []] rfl (fun k h=>?_) [.F,8,.K [2,8,9,10] []] rfl fun k h=>?_
   ·cases h
    exact Qah rfl (an_ rfl rfl)
   cases h
   exact QY rfl rfl
  cases h
  exact QZ rfl (an_ rfl rfl)
 rcases B with(D | _)
 ·replace h:Qoq D=some r:=h
  rintro e σ ⟨rfl,rfl⟩
  refine tg_ f [2] ?_
  cases h
  exact d2_ tt_
 replace h:Qor=some r:=h
 rintro e σ ⟨rfl,rfl⟩
 refine tg_ f [9] ?_
 cases h
 exact d2_ tt_
def QpN (b:QBg)(a:Int):Option Bool:=
 (idx b a).bind fun g=>
 bif (decide (g.1<0))then
 some true
 else
 (idx b a).bind fun c=>
 bif (decide (c.2<1))then
 some true
 else
 (idx b a).bind fun d=>
 bif (decide (1048576<d.2))then
 some true
 else
 bif (decide (0<a))then
 (idx b a).bind fun e=>
 (idx b (w64 (a-1))).bind fun f=>
 some (decide (e.1<=f.1))
 else
 some false
def Qio (a:Int)(b:Bool):Option (Int⊕(Unit⊕Unit)):=
 bif b then
 some (.inr (.inl ()))
 else
 some (.inl (w64 (a+1)))
def QcO (b:QBg)(a:Int):Option (Int⊕(Unit⊕Unit)):=
 bif (decide (a<(b.length:Int)))then
 (QpN b a).bind (fun c=>Qio a c)
 else
 some (.inr (.inr ()))
def QpO : Option Bool:=
 some false
def QpP : Option Bool:=
 some true
def Qei (a:QBg):Option Bool:=
 (Qz (fun st=>QcO a st) 0).bind (Sum.elim (fun q=>QpO) (fun q=>QpP))
theorem Qf7 (u){r}(h:Qei u=some r):Qc prog 187 [.sl 2 (u.map Qp)] [] (Gives (.b r) []):=by
 refine wk_ 50 func187 fun C c=>?_
 refine tg_ c [12,.K [0,3] []] ?_
 obtain⟨z,v,h⟩:=Qb h
 refine AK.loop (body:=(fun st=>QcO u st)) (fun st σ=>σ=⟨[(0,.sl 2 (u.map Qp)),(3,.I st)],[]⟩) (Sum.elim (fun q e σ=>e=.ret/\σ=⟨[(2,.b false)],[]⟩) (fun q e σ=>e=.exit 0/\σ=⟨[],[]⟩)) v rfl ?_ ?_
 ·rintro A o σ rfl h
  refine Qa c [5,.o (.ln u.length),3] rfl (a1_ Qf) ?_
  refine bq_ c h [.T,5] rfl (fun s h=>?_) [.F,2,.K [] []] rfl fun s h=>?_
  ·obtain⟨B,D,h⟩:=Qb h
   replace h:Qio A B=some o:=h
   refine AK.meetX (fun σ=>σ=⟨[(0,.sl 2 (u.map Qp)),(3,.I A),(49,.b B)],[]⟩) ?_ ?_
   ·replace h:=D
    obtain⟨w,j,h⟩:=Qb h
    refine tg_ c [.K [0,3] []] ?_
    rcases Qm h with⟨d,h⟩|⟨d,h⟩
    ·refine AK.draw2 Qo c mixed [.N,.N,.a (.row (Qp w)) none false,.N,.N,.N,.a .no (some ([],.b true)) false,.N,.N,.N,.N,.N,.N,.N,.N,.N,.N,.N,.N,.N,.N,.N,.N,.N,.N,.N,.N,.N,.N,.N,.N,.N,.N,.N,.N,.N,.N,.N,.N,.N] [] [] [0,3,49] [] rfl rfl rfl ⟨⟨tt_,(QJ j)⟩,(cb_ d)⟩ rfl (by kernel_rfl) rfl rfl rfl ?_
     refine tg_ c [.K [0,3,49] []] ?_
     cases h
     exact mt_
    obtain⟨p,g,h⟩:=Qb h
    rcases Qm h with⟨f,h⟩|⟨f,h⟩
    ·refine AK.draw2 Qo c mixed [.N,.N,.a (.row (Qp w)) none false,.N,.N,.N,.a .no (some ([],.b false)) false,.N,.N,.a (.row (Qp p)) none false,.N,.N,.N,.N,.a .no (some ([],.b true)) false,.N,.N,.N,.N,.N,.N,.N,.N,.N,.N,.N,.N,.N,.N,.N,.N,.N,.N,.N,.N,.N,.N,.N,.N,.N] [] [] [0,3,49] [] rfl rfl rfl ⟨⟨⟨⟨tt_,(QJ j)⟩,(cb_ d)⟩,(QJ g)⟩,(cb_ f)⟩ rfl (by kernel_rfl) rfl rfl rfl ?_
     refine tg_ c [.K [0,3,49] []] ?_
     cases h
     exact mt_
    obtain⟨t,k,h⟩:=Qb h
    rcases Qm h with⟨i,h⟩|⟨i,h⟩
    ·refine AK.draw2 Qo c mixed [.N,.N,.a (.row (Qp w)) none false,.N,.N,.N,.a .no (some ([],.b false)) false,.N,.N,.a (.row (Qp p)) none false,.N,.N,.N,.N,.a .no (some ([],.b false)) false,.N,.N,.a (.row (Qp t)) none false,.N,.N,.N,.N,.a .no (some ([],.b true)) false,.N,.N,.N,.N,.N,.N,.N,.N,.N,.N,.N,.N,.N,.N,.N,.N,.N] [] [] [0,3,49] [] rfl rfl rfl ⟨⟨⟨⟨⟨⟨tt_,(QJ j)⟩,(cb_ d)⟩,(QJ g)⟩,(cb_ f)⟩,(QJ k)⟩,(cb_ i)⟩ rfl (by kernel_rfl) rfl rfl rfl ?_
     refine tg_ c [.K [0,3,49] []] ?_
     cases h
     exact mt_
    rcases Qm h with⟨l,h⟩|⟨l,h⟩
    ·obtain⟨E,x,h⟩:=Qb h
     obtain⟨G,y,h⟩:=Qb h
     refine AK.draw2 Qo c mixed [.N,.N,.a (.row (Qp w)) none false,.N,.N,.N,.a .no (some ([],.b false)) false,.N,.N,.a (.row (Qp p)) none false,.N,.N,.N,.N,.a .no (some ([],.b false)) false,.N,.N,.a (.row (Qp t)) none false,.N,.N,.N,.N,.a .no (some ([],.b false)) false,.N,.N,.a .no (some ([],.b true)) false,.N,.N,.a (.row (Qp E)) none false,.N,.N,.N,.N,.N,.a (.row (Qp G)) none false,.N,.N,.N,.N,.N] [] [] [0,3,49] [] rfl rfl rfl ⟨⟨⟨⟨⟨⟨⟨⟨⟨tt_,(QJ j)⟩,(cb_ d)⟩,(QJ g)⟩,(cb_ f)⟩,(QJ k)⟩,(cb_ i)⟩,(cb_ l)⟩,(QJ x)⟩,(QJ y)⟩ rfl (by kernel_rfl) rfl rfl rfl ?_
     refine tg_ c [.K [0,3,49] []] ?_
     cases h
     exact mt_
    refine AK.draw2 Qo c mixed [.N,.N,.a (.row (Qp w)) none false,.N,.N,.N,.a .no (some ([],.b false)) false,.N,.N,.a (.row (Qp p)) none false,.N,.N,.N,.N,.a .no (some ([],.b false)) false,.N,.N,.a (.row (Qp t)) none false,.N,.N,.N,.N,.a .no (some ([],.b false)) false,.N,.N,.a .no (some ([],.b false)) false,.N,.N,.N,.N,.N,.N,.N,.N,.N,.N,.N,.N,.N,.N] [] [] [0,3,49] [] rfl rfl rfl ⟨⟨⟨⟨⟨⟨⟨tt_,(QJ j)⟩,(cb_ d)⟩,(QJ g)⟩,(cb_ f)⟩,(QJ k)⟩,(cb_ i)⟩,(cb_ l)⟩ rfl (by kernel_rfl) rfl rfl rfl ?_
    refine tg_ c [.K [0,3,49] []] ?_
    cases h
    exact mt_
   rintro σ rfl
   replace h:Qio A B=some o:=h
   refine tg_ c [1] ?_
   refine bq_ c h [.T,8,.K [2] []] rfl (fun m h=>?_) [.F,8,.K [0,3] []] rfl fun m h=>?_
   ·cases h
    exact Qah rfl (an_ rfl rfl)
   cases h
   exact QY rfl rfl
  cases h
  exact QZ rfl (an_ rfl rfl)
 rcases z with(_ | _)
 ·replace h:QpO=some r:=h
  rintro e σ ⟨rfl,rfl⟩
  refine tg_ c [2] ?_
  cases h
  exact d1_ tt_
 replace h:QpP=some r:=h
 rintro e σ ⟨rfl,rfl⟩
 refine tg_ c [8] ?_
 cases h
 exact d1_ tt_
def QcP (b:QBg)(e:Bool)(f:Int)(a:Int):Option (Int⊕(Int⊕Unit)):=
 bif ((decide (a<(b.length:Int)))&&e)then
 (idx b a).bind fun c=>
 bif (c.1==f)then
 (idx b a).bind fun d=>
 some (.inr (.inl d.2))
 else
 some (.inl (w64 (a+1)))
 else
 some (.inr (.inr ()))
def QpQ (a:Int):Option Int:=
 some a
def QpR : Option Int:=
 some 0
def QiB (a:QBg)(b:Int):Option Int:=
 (Qei a).bind fun c=>
 (Qz (fun st=>QcP a c b st) 0).bind (Sum.elim (fun q=>QpQ q) (fun q=>QpR))
theorem QpS (j l){r}(h:QiB j l=some r):Qc prog 188 [.sl 2 (j.map Qp),.I l] [] (Gives (.I r) []):=by
 refine wk_ 30 func188 fun C f=>?_
 obtain⟨k,u,h⟩:=Qb h
 refine Qa f [8,.o (.C1 (.b k)),10,.K [0,1,5,6] []] rfl (a1_ (Qf7 _ u)) ?_
 obtain⟨v,m,h⟩:=Qb h
 refine AK.loop (body:=(fun st=>QcP j k l st)) (fun st σ=>σ=⟨[(0,.sl 2 (j.map Qp)),(1,.I l),(5,.b k),(6,.I st)],[]⟩) (Sum.elim (fun q e σ=>e=.ret/\σ=⟨[(4,.I q)],[]⟩) (fun q e σ=>e=.exit 0/\σ=⟨[],[]⟩)) m rfl ?_ ?_
 ·rintro p o σ rfl h
  refine tg_ f [2] ?_
  refine AK.meetX (fun σ=>σ=⟨[(0,.sl 2 (j.map Qp)),(1,.I l),(5,.b k),(6,.I p),(15,.b ((decide (p<(j.length:Int)))&&k))],[]⟩) ?_ ?_
  ·refine Qa f [3,.o (.ln j.length),2] rfl (a1_ Qf) ?_
   rcases QE (decide (p<(j.length:Int)))with a | a
   ·refine Qa f [.S 13 (.b true),3,.S 15 (.b ((decide (p<(j.length:Int)))&&k)),.K [0,1,5,6,15] []] rfl ⟨(tc_ a),(congrArg V.b (Qaq a rfl))⟩ ?_
    exact mt_
   refine Qa f [.S 13 (.b false),3,.S 15 (.b ((decide (p<(j.length:Int)))&&k)),.K [0,1,5,6,15] []] rfl ⟨(tc_ a),(congrArg V.b (Qa4 a rfl))⟩ ?_
   exact mt_
  rintro σ rfl
  refine tg_ f [1] ?_
  rcases Qm h with⟨g,h⟩|⟨g,h⟩
  ·obtain⟨w,s,h⟩:=Qb h
   refine Qa f [.T,8,.o (.row (Qp w)),6] rfl (a2_ g (QJ s)) ?_
   rcases Qm h with⟨i,h⟩|⟨i,h⟩
   ·obtain⟨x,t,h⟩:=Qb h
    refine Qa f [.T,4,.o (.row (Qp x)),8,.K [4] []] rfl (a2_ i (QJ t)) ?_
    cases h
    exact Qah rfl (an_ rfl rfl)
   refine Qa f [.F,8,.K [0,1,5,6] []] rfl (a1_ i) ?_
   cases h
   exact QY rfl rfl
  refine Qa f [.F,2,.K [] []] rfl (a1_ g) ?_
  cases h
  exact QZ rfl (an_ rfl rfl)
 rcases v with(y | _)
 ·replace h:QpQ y=some r:=h
  rintro e σ ⟨rfl,rfl⟩
  refine tg_ f [2] ?_
  cases h
  exact d1_ tt_
 replace h:QpR=some r:=h
 rintro e σ ⟨rfl,rfl⟩
 refine tg_ f [8] ?_
 cases h
 exact d1_ tt_
def QjC (c:Int)(a:Bool)(b:QBg):Option ((Bool×Int×QBg)⊕(Bool×QBg)):=
 some (.inl (a,(w64 (c+1)),b))
def QgQ (f:QBg)(d:Int)(g:Int)(a:Bool)(b:QBg):Option ((Bool×Int×QBg)⊕(Bool×QBg)):=
 (idx f d).bind fun e=>
 bif (e.1 != g)then
 (idx f d).bind fun c=>
 (chk (decide (b.length+([c]:List (Int×Int)).length<=4294967296))).bind fun _=>
 QjC d a (b++([c]:List (Int×Int)))
 else
 QjC d a b
def QqY (a:Bool)(c:QBg)(d:Int)(e:Int):Option Bool:=
 bif (!a)then
 (idx c d).bind fun b=>
 some (decide (e<=b.1))
 else
 some false
def QgR (b:QBg)(c:Int)(d:Int)(a:QBg):Option ((Bool×Int×QBg)⊕(Bool×QBg)):=
 QgQ b c d true a
def QjD (d:Int)(c:QBg)(b:Int)(e:QBg)(f:Int)(a:Bool)(g:Bool):Option ((Bool×Int×QBg)⊕(Bool×QBg)):=
 bif g then
 bif (decide (0<d))then
 (chk (decide (c.length+([(b,d)]:List (Int×Int)).length<=4294967296))).bind fun _=>
 QgR e f b (c++([(b,d)]:List (Int×Int)))
 else
 QgR e f b c
 else
 QgQ e f b a c
def Qd4 (b:QBg)(e:Int)(g:Int)(a:Bool)(c:Int)(f:QBg):Option ((Bool×Int×QBg)⊕(Bool×QBg)):=
 bif (decide (c<(b.length:Int)))then
 (QqY a b c e).bind (fun d=>QjD g f e b c a d)
 else
 some (.inr (a,f))
def QjE (a:QBg):Option QBg:=
 some a
def QgS (c:Int)(d:Int)(a:Bool)(b:QBg):Option QBg:=
 bif ((!a)&&(decide (0<c)))then
 (chk (decide (b.length+([(d,c)]:List (Int×Int)).length<=4294967296))).bind fun _=>
 QjE (b++([(d,c)]:List (Int×Int)))
 else
 QjE b
def QmK (c:QBg)(a:Int)(b:Int):Option QBg:=
 (Qz (fun st=>Qd4 c a b st.1 st.2.1 st.2.2) (false,0,([]:List (Int×Int)))).bind (fun q=>QgS b a q.1 q.2)
theorem QwX (l f d){r}(h:QmK l f d=some r):Qc prog 189 [.sl 2 (l.map Qp),.I f,.I d] [] (Gives (.own 600 r.length) [(600,.arr 2 (r.map Qp))]):=by
 refine wk_ 62 func189 fun C a=>?_
 refine Qa a [22,.adopt 7 29 2,.O 29 (.arr 2 (([]:List (Int×Int)).map Qp)),.S 7 (.own 29 ([]:List (Int×Int)).length),.K [0,1,2,7,8,9] [29]] rfl (a2_ rfl (congrArg (fun n=>V.own 29 n) (by simp))) ?_
 obtain⟨Y,J,h⟩:=Qb h
 refine AK.loop (body:=(fun st=>Qd4 l f d st.1 st.2.1 st.2.2)) (fun st σ=>σ=⟨[(0,.sl 2 (l.map Qp)),(1,.I f),(2,.I d),(7,.own 29 st.2.2.length),(8,.b st.1),(9,.I st.2.1)],[(29,.arr 2 (st.2.2.map Qp))]⟩) (fun q e σ=>e=.exit 0/\σ=⟨[(1,.I f),(2,.I d),(7,.own 29 q.2.length),(8,.b q.1)],[(29,.arr 2 (q.2.map Qp))]⟩) J rfl ?_ ?_
 ·rintro ⟨k,A,H⟩ o σ rfl h
  refine Qa a [5,.o (.ln l.length),3] rfl (a1_ Qf) ?_
  refine bq_ a h [.T,2] rfl (fun p h=>?_) [.F,2,.K [1,2,7,8] [29]] rfl fun p h=>?_
  ·refine AK.meet (fun σ=>∃g:Bool,∃B:QBg,σ=⟨[(0,.sl 2 (l.map Qp)),(1,.I f),(2,.I d),(7,.own 29 B.length),(8,.b g),(9,.I A)],[(29,.arr 2 (B.map Qp))]⟩/\QjC A g B=some o) ?_ ?_
   ·refine tg_ a [1] ?_
    refine AK.meet (fun σ=>∃i:Bool,∃m:QBg,σ=⟨[(0,.sl 2 (l.map Qp)),(1,.I f),(2,.I d),(7,.own 29 m.length),(8,.b i),(9,.I A)],[(29,.arr 2 (m.map Qp))]⟩/\QgQ l A f i m=some o) ?_ ?_
    ·refine tg_ a [1] ?_
     obtain⟨G,L,h⟩:=Qb h
     replace h:QjD d H f l A k G=some o:=h
     refine AK.meetX (fun σ=>σ=⟨[(0,.sl 2 (l.map Qp)),(1,.I f),(2,.I d),(7,.own 29 H.length),(8,.b k),(9,.I A),(26,.b G)],[(29,.arr 2 (H.map Qp))]⟩) ?_ ?_
     ·replace h:=L
      refine tg_ a [4] ?_
      rcases Qm h with⟨s,h⟩|⟨s,h⟩
      ·obtain⟨Z,M,h⟩:=Qb h
       refine Qa a [.S 18 (.b true),2,.o (.row (Qp Z)),6,.K [0,1,2,7,8,9,26] [29]] rfl ⟨(tc_ s),(QJ M)⟩ ?_
       cases h
       exact mt_
      refine Qa a [.S 18 (.b false),9,.K [0,1,2,7,8,9,26] [29]] rfl (tc_ s) ?_
      cases h
      exact mt_
     rintro σ rfl
     replace h:QjD d H f l A k G=some o:=h
     refine tg_ a [1] ?_
     refine bq_ a h [.T] rfl (fun t h=>?_) [.F,1,.K [0,1,2,7,8,9] [29]] rfl fun t h=>?_
     ·refine AK.meet (fun σ=>∃D:QBg,σ=⟨[(0,.sl 2 (l.map Qp)),(1,.I f),(2,.I d),(7,.own 29 D.length),(9,.I A)],[(29,.arr 2 (D.map Qp))]⟩/\QgR l A f D=some o) ?_ ?_
      ·refine tg_ a [6] ?_
       rcases Qm h with⟨u,h⟩|⟨u,h⟩
       ·obtain⟨N,h⟩:=QaV h
        refine Qa a [.T,4,.A (Qp (f,d)),.v (.bd []) [] (.sl 2 (([(f,d)]:List (Int×Int)).map Qp)),.app ((H++([(f,d)]:List (Int×Int))).map Qp) (H++([(f,d)]:List (Int×Int))).length,2,.K [0,1,2,7,9] [29]] rfl (a4_ u rfl rfl ⟨Qf,Qcw N Qf,Qa2,Qdc Qf⟩) ?_
        exact AK.met (ex_ _ (an_ rfl h))
       refine Qa a [.F,1,.K [0,1,2,7,9] [29]] rfl (a1_ u) ?_
       exact AK.met (ex_ _ (an_ rfl h))
      rintro σ ⟨D,rfl,h⟩
      unfold QgR at h
      refine tg_ a [3,.K [0,1,2,7,8,9] [29]] ?_
      exact AK.met (ex_ _ (ex_ _ (an_ rfl h)))
     exact AK.met (ex_ _ (ex_ _ (an_ rfl h)))
    rintro σ ⟨i,m,rfl,h⟩
    obtain⟨a0,P,h⟩:=Qb h
    refine Qa a [4,.o (.row (Qp a0)),6] rfl (a1_ (QJ P)) ?_
    rcases Qm h with⟨w,h⟩|⟨w,h⟩
    ·obtain⟨x,U,h⟩:=Qb h
     obtain⟨W,h⟩:=QaV h
     refine Qa a [.T,4,.o (.row (Qp x)),.A (Qp x),.v (.bd []) [] (.sl 2 (([x]:List (Int×Int)).map Qp)),.app ((m++([x]:List (Int×Int))).map Qp) (m++([x]:List (Int×Int))).length,3,.K [0,1,2,7,8,9] [29]] rfl (a5_ w (QJ U) rfl rfl ⟨Qf,Qcw W Qf,Qa2,Qdc Qf⟩) ?_
     exact AK.met (ex_ _ (ex_ _ (an_ rfl h)))
    refine Qa a [.F,2,.K [0,1,2,7,8,9] [29]] rfl (a1_ w) ?_
    exact AK.met (ex_ _ (ex_ _ (an_ rfl h)))
   rintro σ ⟨g,B,rfl,h⟩
   refine tg_ a [5,.K [0,1,2,7,8,9] [29]] ?_
   cases h
   exact QY rfl rfl
  cases h
  exact QZ rfl (an_ rfl rfl)
 obtain⟨c,y⟩:=Y
 replace h:QgS d f c y=some r:=h
 unfold QgS at h
 rintro e σ ⟨rfl,rfl⟩
 refine tg_ a [2] ?_
 refine AK.meet (fun σ=>∃E:QBg,σ=⟨[(7,.own 29 E.length)],[(29,.arr 2 (E.map Qp))]⟩/\QjE E=some r) ?_ ?_
 ·refine tg_ a [1] ?_
  refine AK.meetX (fun σ=>σ=⟨[(1,.I f),(2,.I d),(7,.own 29 y.length),(54,.b ((!c)&&(decide (0<d))))],[(29,.arr 2 (y.map Qp))]⟩) ?_ ?_
  ·refine tg_ a [4] ?_
   rcases QE (!c)with j | j
   ·refine Qa a [.S 51 (.b true),4,.S 54 (.b ((!c)&&(decide (0<d)))),.K [1,2,7,54] [29]] rfl ⟨(tc_ j),(congrArg V.b (Qaq j rfl))⟩ ?_
    exact mt_
   refine Qa a [.S 51 (.b false),4,.S 54 (.b ((!c)&&(decide (0<d)))),.K [1,2,7,54] [29]] rfl ⟨(tc_ j),(congrArg V.b (Qa4 j rfl))⟩ ?_
   exact mt_
  rintro σ rfl
  refine tg_ a [1] ?_
  rcases Qm h with⟨z,h⟩|⟨z,h⟩
  ·obtain⟨X,h⟩:=QaV h
   refine Qa a [.T,4,.A (Qp (f,d)),.v (.bd []) [] (.sl 2 (([(f,d)]:List (Int×Int)).map Qp)),.app ((y++([(f,d)]:List (Int×Int))).map Qp) (y++([(f,d)]:List (Int×Int))).length,2,.K [7] [29]] rfl (a4_ z rfl rfl ⟨Qf,Qcw X Qf,Qa2,Qdc Qf⟩) ?_
   exact AK.met (ex_ _ (an_ rfl h))
  refine Qa a [.F,1,.K [7] [29]] rfl (a1_ z) ?_
  exact AK.met (ex_ _ (an_ rfl h))
 rintro σ ⟨E,rfl,h⟩
 refine tg_ a [7,.K [6] [29],.ren 29 600] ?_
 cases h
 exact d1_ r1_
def QrN (b:QBg)(c:QBg):Option Bool:=
 (Qei b).bind fun d=>
 bif (!d)then
 some true
 else
 (Qei c).bind fun a=>
 some (!a)
def QdH (e:QBg)(a:Int)(b:QBg):Option ((Int×QBg)⊕(Unit⊕QBg)):=
 bif (decide (a<(e.length:Int)))then
 (idx e a).bind fun f=>
 (QiB b f.1).bind fun c=>
 (idx e a).bind fun d=>
 bif (decide (1048576<(w64 (c+d.2))))then
 some (.inr (.inl ()))
 else
 (idx e a).bind fun g=>
 (QmK b g.1 (w64 (c+d.2))).bind fun h=>
 some (.inl ((w64 (a+1)),h))
 else
 some (.inr (.inr b))
def QrO : Option (QBg×Int):=
 some (([]:List (Int×Int)),2)
def QrP (a:QBg):Option (QBg×Int):=
 some (a,0)
def QkJ (a:QBg)(b:QBg)(c:Bool):Option (QBg×Int):=
 bif c then
 some (([]:List (Int×Int)),1)
 else
 (chk (decide (([]:List (Int×Int)).length+a.length<=4294967296))).bind fun _=>
 (Qz (fun st=>QdH b st.1 st.2) (0,(([]:List (Int×Int))++a))).bind (Sum.elim (fun q=>QrO) (fun q=>QrP q))
def Qnv (a:QBg)(b:QBg):Option (QBg×Int):=
 (QrN a b).bind (fun c=>QkJ a b c)
theorem QxR (m l){r}(h:Qnv m l=some r):Qc prog 136 [.sl 2 (m.map Qp),.sl 2 (l.map Qp)] [] (Gives (.tup [.sl 2 (r.1.map Qp),.I r.2]) []):=by
 refine wk_ 50 func136 fun C f=>?_
 refine tg_ f [8] ?_
 obtain⟨D,E,h⟩:=Qb h
 replace h:QkJ m l D=some r:=h
 refine AK.meetX (fun σ=>σ=⟨[(0,.sl 2 (m.map Qp)),(1,.sl 2 (l.map Qp)),(16,.b D)],[]⟩) ?_ ?_
 ·replace h:=E
  obtain⟨W,G,h⟩:=Qb h
  refine Qa f [2,.o (.C1 (.b W)),2] rfl (a1_ (Qf7 _ G)) ?_
  rcases Qm h with⟨g,h⟩|⟨g,h⟩
  ·refine Qa f [.S 12 (.b true),5,.K [0,1,16] []] rfl (tc_ g) ?_
   cases h
   exact mt_
  obtain⟨H,p,h⟩:=Qb h
  refine Qa f [.S 12 (.b false),1,.o (.C1 (.b H)),3,.K [0,1,16] []] rfl ⟨(tc_ g),(Qf7 _ p)⟩ ?_
  cases h
  exact mt_
 rintro σ rfl
 replace h:QkJ m l D=some r:=h
 refine tg_ f [1] ?_
 rcases Qm h with⟨i,h⟩|⟨i,h⟩
 ·refine Qa f [.T,8,.denil 4 [some 2]] rfl (a1_ i) ?_
  cases h
  exact d2_ tt_
 obtain⟨s,h⟩:=QaV h
 refine Qa f [.F,5,.O 17 (.arr 2 (([]:List (Int×Int)).map Qp)),.S 17 (.own 17 ([]:List (Int×Int)).length),1,.app ((([]:List (Int×Int))++m).map Qp) (([]:List (Int×Int))++m).length,10,.ren 17 605,.K [1,6,7] [605]] rfl (a4_ i rfl rfl ⟨Qf,Qcw s Qf,Qa2,Qdc Qf⟩) ?_
 obtain⟨J,t,h⟩:=Qb h
 refine AK.loop (body:=(fun st=>QdH l st.1 st.2)) (fun st σ=>σ=⟨[(1,.sl 2 (l.map Qp)),(6,.own 605 st.2.length),(7,.I st.1)],[(605,.arr 2 (st.2.map Qp))]⟩) (Sum.elim (fun q e σ=>e=.ret/\σ=⟨[(4,.lit (.slice none 0 0)),(5,.I 2)],[]⟩) (fun q e σ=>e=.exit 0/\σ=⟨[(6,.own 605 q.length)],[(605,.arr 2 (q.map Qp))]⟩)) t rfl ?_ ?_
 ·rintro ⟨X,u⟩ o σ rfl h
  refine Qa f [5,.o (.ln l.length),3] rfl (a1_ Qf) ?_
  rcases Qm h with⟨j,h⟩|⟨j,h⟩
  ·obtain⟨L,v,h⟩:=Qb h
   obtain⟨M,w,h⟩:=Qb h
   obtain⟨P,x,h⟩:=Qb h
   refine Qa f [.T,5,.K [1,6,7] [605]] rfl (a1_ j) ?_
   refine AK.draw2 Qo f mixed [.N,.N,.N,.a (.row (Qp L)) none false,.N,.N,.a (.c true [.o (u.map Qp),.d] (.I M)) none false,.N,.N,.a (.row (Qp P)) none false,.N,.N,.N,.N] [] [] [1,6,7,8] [605] rfl rfl rfl ⟨⟨⟨tt_,(QJ v)⟩,⟨(QoY rfl),(QpS _ _ w)⟩⟩,(QJ x)⟩ rfl (by kernel_rfl) rfl rfl rfl ?_
   refine tg_ f [8] ?_
   rcases Qm h with⟨k,h⟩|⟨k,h⟩
   ·refine Qa f [.T,10,.K [4,5] []] rfl (a1_ k) ?_
    cases h
    exact Qah rfl (an_ rfl rfl)
   obtain⟨U,y,h⟩:=Qb h
   obtain⟨z,A,h⟩:=Qb h
   refine Qa f [.F,6,.o (.row (Qp U)),3,.frz 605 (u.map Qp) [6,41] [],.o (.co false [.d,.d,.d] 2 (z.map Qp) z.length),9,.ren 48 605,.K [1,6,7] [605]] rfl (a4_ k (QJ y) (a2_ (QeC Qf) (QeC Qf)) ⟨(QwX _ _ _ A),Qf,.inl rfl⟩) ?_
   cases h
   exact QY rfl rfl
  refine Qa f [.F,2,.K [6] [605]] rfl (a1_ j) ?_
  cases h
  exact QZ rfl (an_ rfl rfl)
 rcases J with(_ | B)
 ·replace h:QrO=some r:=h
  rintro e σ ⟨rfl,rfl⟩
  refine tg_ f [2,.denil 4 [some 2]] ?_
  cases h
  exact d2_ tt_
 replace h:QrP B=some r:=h
 rintro e σ ⟨rfl,rfl⟩
 refine Qa f [10,.frz 605 (B.map Qp) [4] []] rfl (a1_ (a1_ (QeC Qf))) ?_
 cases h
 exact d2_ tt_
def Qfq (a:(List Int))(j:(List Qat))(h:(List Int))(k:Qn)(e:Int)(c:QMk):Option ((Int×QMk)⊕(Int⊕QMk)):=
 bif (decide (e<(a.length:Int)))then
 (idx a e).bind fun d=>
 bif ((decide (d<0))||(decide ((j.length:Int)<=d)))then
 some (.inr (.inl 11))
 else
 (idx j d).bind fun l=>
 (Qj8 l.Expr h).bind fun f=>
 bif (f.2 != 0)then
 some (.inr (.inl f.2))
 else
 (idx j d).bind fun b=>
 bif ((decide (b.Place<0))||(decide ((k.Places.length:Int)<=b.Place)))then
 some (.inr (.inl 3))
 else
 (idx k.Places b.Place).bind fun m=>
 (QkI k.Colours m.Colour f.1).bind fun i=>
 bif (!i.2)then
 some (.inr (.inl 8))
 else
 (idx c b.Place).bind fun n=>
 (Qnv n ([(i.1,1)]:List (Int×Int))).bind fun g=>
 bif (g.2 != 0)then
 some (.inr (.inl g.2))
 else
 (idx c b.Place).bind fun o=>
 some (.inl ((w64 (e+1)),(c.set b.Place.toNat g.1)))
 else
 some (.inr (.inr c))
def Qot (a:Int):Option (QMk×Int):=
 some (([]:List QBg),a)
def Qou (a:QMk):Option (QMk×Int):=
 some (a,0)
def QeL (b:Qn)(d:(List Qat))(a:(List Int))(c:(List Int)):Option (QMk×Int):=
 (chk (decide (0<=(b.Places.length:Int))&&decide ((b.Places.length:Int)<=(b.Places.length:Int))&&decide ((b.Places.length:Int)<=4294967296))).bind fun _=>
 (Qz (fun st=>Qfq a d c b st.1 st.2) (0,(List.replicate (b.Places.length:Int).toNat (([]:QBg):QBg)))).bind (Sum.elim (fun q=>Qot q) (fun q=>Qou q))
theorem QkZ (s D g k){r}(h:QeL s D g k=some r):Qc prog 75 [.agg (Qd s),.sl 4 (D.map Q2),.sl 1 (g.map Qe),.sl 1 (k.map Qe)] [] (Gives (.tup [.sl 1 (r.1.map Qs),.I r.2]) []):=by
 refine wk_ 103 func75 fun C i=>?_
 obtain⟨a3,h⟩:=QaV h
 refine Qa i [11,.o (.ln s.Places.length),.o (.rows (List.replicate (s.Places.length:Int).toNat [.lit (.slice none 0 0)]))] rfl (a2_ Qf ⟨a3,rfl⟩) ?_
 refine AK.denilA (b:=23) [some 2] rfl (QBh (f:=Qs) (x:=([]:QBg)) rfl) ?_
 refine Qa i [.S 23 (.own 23 (List.replicate (s.Places.length:Int).toNat (([]:QBg):QBg)).length),10,.K [1,2,3,4,10,11] [4,23]] rfl (a1_ (by simp)) ?_
 obtain⟨a4,M,h⟩:=Qb h
 refine AK.loop (body:=(fun st=>Qfq g D k s st.1 st.2)) (fun st σ=>σ=⟨[(1,.sl 4 (D.map Q2)),(2,.sl 1 (g.map Qe)),(3,.sl 1 (k.map Qe)),lk_ 4,(10,.own 23 st.2.length),(11,.I st.1)],[(4,.var (Qd s)),(23,.arr 1 (st.2.map Qs))]⟩) (Sum.elim (fun q e σ=>e=.ret/\σ=⟨[(8,.lit (.slice none 0 0)),(9,.I q)],[]⟩) (fun q e σ=>e=.exit 0/\σ=⟨[(10,.own 23 q.length)],[(23,.arr 1 (q.map Qs))]⟩)) M rfl ?_ ?_
 ·rintro ⟨O,t⟩ o σ rfl h
  refine Qa i [5,.o (.ln g.length),3] rfl (a1_ Qf) ?_
  rcases Qm h with⟨u,h⟩|⟨u,h⟩
  ·obtain⟨l,P,h⟩:=Qb h
   refine Qa i [.T,8,.o (.row (Qe l)),6] rfl (a2_ u (QJ P)) ?_
   refine AK.meetX (fun σ=>σ=⟨[(1,.sl 4 (D.map Q2)),(2,.sl 1 (g.map Qe)),(3,.sl 1 (k.map Qe)),lk_ 4,(10,.own 23 t.length),(11,.I O),(12,.I l),(41,.b ((decide (l<0))||(decide ((D.length:Int)<=l))))],[(4,.var (Qd s)),(23,.arr 1 (t.map Qs))]⟩) ?_ ?_
   ·refine tg_ i [4] ?_
    rcases QE (decide (l<0))with m | m
    ·refine Qa i [.S 36 (.b true),6,.S 41 (.b ((decide (l<0))||(decide ((D.length:Int)<=l)))),.K [1,2,3,4,10,11,12,41] [4,23]] rfl ⟨(tc_ m),(congrArg V.b (orT m rfl))⟩ ?_
     exact mt_
    refine Qa i [.S 36 (.b false),2,.o (.ln D.length),3,.S 41 (.b ((decide (l<0))||(decide ((D.length:Int)<=l)))),.K [1,2,3,4,10,11,12,41] [4,23]] rfl ⟨⟨(tc_ m),Qf⟩,(congrArg V.b (orF m rfl))⟩ ?_
    exact mt_
   rintro σ rfl
   refine tg_ i [1] ?_
   rcases Qm h with⟨w,h⟩|⟨w,h⟩
   ·refine Qa i [.T,10,.K [8,9] []] rfl (a1_ w) ?_
    cases h
    exact Qah rfl (an_ rfl rfl)
   obtain⟨U,W,h⟩:=Qb h
   obtain⟨L,X,h⟩:=Qb h
   refine Qa i [.F,6,.o (.row (Q2 U)),1,.A (Qk U.Expr),1,.o (.C2 (.tup [.I L.1,.I L.2])),14] rfl (a4_ w (QJ W) rfl (QqU _ _ X)) ?_
   rcases Qm h with⟨y,h⟩|⟨y,h⟩
   ·refine Qa i [.T,11,.K [8,9] []] rfl (a1_ y) ?_
    cases h
    exact Qah rfl (an_ rfl rfl)
   obtain⟨j,Y,h⟩:=Qb h
   refine Qa i [.F,6,.o (.row (Q2 j)),7] rfl (a2_ y (QJ Y)) ?_
   refine AK.meetX (fun σ=>σ=⟨[(1,.sl 4 (D.map Q2)),(2,.sl 1 (g.map Qe)),(3,.sl 1 (k.map Qe)),lk_ 4,(10,.own 23 t.length),(11,.I O),(13,.I L.1),(15,.I j.Place),(68,.b ((decide (j.Place<0))||(decide ((s.Places.length:Int)<=j.Place))))],[(4,.var (Qd s)),(23,.arr 1 (t.map Qs))]⟩) ?_ ?_
   ·refine tg_ i [4] ?_
    rcases QE (decide (j.Place<0))with p | p
    ·refine Qa i [.S 62 (.b true),7,.S 68 (.b ((decide (j.Place<0))||(decide ((s.Places.length:Int)<=j.Place)))),.K [1,2,3,4,10,11,13,15,68] [4,23]] rfl ⟨(tc_ p),(congrArg V.b (orT p rfl))⟩ ?_
     exact mt_
    refine Qa i [.S 62 (.b false),3,.o (.ln s.Places.length),3,.S 68 (.b ((decide (j.Place<0))||(decide ((s.Places.length:Int)<=j.Place)))),.K [1,2,3,4,10,11,13,15,68] [4,23]] rfl ⟨⟨(tc_ p),Qf⟩,(congrArg V.b (orF p rfl))⟩ ?_
    exact mt_
   rintro σ rfl
   refine tg_ i [1] ?_
   rcases Qm h with⟨z,h⟩|⟨z,h⟩
   ·refine Qa i [.T,10,.K [8,9] []] rfl (a1_ z) ?_
    cases h
    exact Qah rfl (an_ rfl rfl)
   obtain⟨a5,Z,h⟩:=Qb h
   obtain⟨E,a0,h⟩:=Qb h
   refine Qa i [.F,3,.K [1,2,3,4,10,11,13,15] [4,23]] rfl (a1_ z) ?_
   refine AK.draw2 Qo i mixed [.N,.N,.N,.N,.N,.a (.row (QC a5)) none false,.N,.N,.N,.a (.C3 (.tup [.I E.1,.b E.2])) none false,.N,.N,.N,.N,.N] [] [] [1,2,3,4,10,11,15,16,17] [4,23] rfl rfl rfl ⟨⟨tt_,(QJ Z)⟩,(Qvd _ _ _ a0)⟩ rfl (by kernel_rfl) rfl rfl rfl ?_
   refine tg_ i [8] ?_
   rcases Qm h with⟨A,h⟩|⟨A,h⟩
   ·refine Qa i [.T,10,.K [8,9] []] rfl (a1_ A) ?_
    cases h
    exact Qah rfl (an_ rfl rfl)
   obtain⟨a6,H,h⟩:=Qb h
   obtain⟨G,a1,h⟩:=Qb h
   refine Qa i [.F,7,.o (.row (Qs a6)),1,.A (Qp (E.1,1)),.v (.bd []) [] (.sl 2 (([(E.1,1)]:List (Int×Int)).map Qp)),.o (.C2 (.tup [.sl 2 (G.1.map Qp),.I G.2])),14] rfl (a6_ A (QdK H rfl) (Qcb (Qcq H).2) rfl rfl (QxR _ _ a1)) ?_
   rcases Qm h with⟨B,h⟩|⟨B,h⟩
   ·refine Qa i [.T,11,.K [8,9] []] rfl (a1_ B) ?_
    cases h
    exact Qah rfl (an_ rfl rfl)
   obtain⟨a7,J,h⟩:=Qb h
   refine Qa i [.F,7,.st (Qs a7) ((t.set j.Place.toNat G.1).map Qs),8,.S 10 (.own 23 (t.set j.Place.toNat G.1).length),.K [1,2,3,4,10,11] [4,23]] rfl (a4_ B (QdK J rfl) ⟨(Qcb (Qcq J).2),Qnz rfl⟩ (congrArg (fun n=>V.own 23 n) (by simp))) ?_
   cases h
   exact QY rfl rfl
  refine Qa i [.F,2,.K [10] [23]] rfl (a1_ u) ?_
  cases h
  exact QZ rfl (an_ rfl rfl)
 rcases a4 with(a8 | a2)
 ·replace h:Qot a8=some r:=h
  rintro e σ ⟨rfl,rfl⟩
  refine tg_ i [2,.denil 8 [some 1]] ?_
  cases h
  exact d2_ tt_
 replace h:Qou a2=some r:=h
 rintro e σ ⟨rfl,rfl⟩
 refine Qa i [10,.frz 23 (a2.map Qs) [8] []] rfl (a1_ (a1_ (QeC Qf))) ?_
 cases h
 exact d2_ tt_
def QlH (c:Qn)(b:Qi):Option (QMk×Int):=
 (QiK c b.Task b.Vars).bind fun d=>
 bif (d.2 != 0)then
 some (([]:List QBg),d.2)
 else
 (idx c.Tasks b.Task).bind fun e=>
 (QeL c e.Ins b.Ins d.1).bind fun a=>
 some (a.1,a.2)
theorem Qv5 (i l){r}(h:QlH i l=some r):Qc prog 72 [.agg (Qd i),.agg (Qw l)] [] (Gives (.tup [.sl 1 (r.1.map Qs),.I r.2]) []):=by
 refine wk_ 34 func72 fun C e=>?_
 obtain⟨p,j,h⟩:=Qb h
 refine Qa e [10,.A (Qd i),4,.o (.C3 (.tup [.sl 1 (p.1.map Qe),.I p.2])),14] rfl (a2_ rfl (Qm7 _ _ _ j)) ?_
 rcases Qm h with⟨b,h⟩|⟨b,h⟩
 ·refine Qa e [.T,9,.denil 4 [some 1]] rfl (a1_ b) ?_
  cases h
  exact d2_ tt_
 obtain⟨q,k,h⟩:=Qb h
 obtain⟨f,g,h⟩:=Qb h
 refine Qa e [.F,3,.K [2,3,4,5,6] [2,3]] rfl (a1_ b) ?_
 refine AK.draw2 Qo e mixed [.a .no (some ([],.agg (Qd i))) false,.N,.N,.N,.N,.a (.row (Qj q)) none false,.N,.N,.N,.N,.N,.a (.C4 (.tup [.sl 1 (f.1.map Qs),.I f.2])) none false,.N,.N,.m .s,.m .s] [] [] [4,5] [] rfl rfl rfl ⟨⟨⟨tt_,rfl⟩,(QJ k)⟩,(QkZ _ _ _ _ g)⟩ rfl (by kernel_rfl) rfl rfl rfl ?_
 refine tg_ e [2] ?_
 cases h
 exact d2_ tt_
def Qov (a:QBg)(b:QBg):Option Bool:=
 (Qei a).bind fun c=>
 bif (!c)then
 some true
 else
 (Qei b).bind fun d=>
 some (!d)
def Qc9 (b:QBg)(f:QBg)(a:Int):Option (Int⊕(Unit⊕Unit)):=
 bif (decide (a<(b.length:Int)))then
 (idx b a).bind fun c=>
 (idx b a).bind fun d=>
 (QiB f d.1).bind fun e=>
 bif (decide (e<c.2))then
 some (.inr (.inl ()))
 else
 some (.inl (w64 (a+1)))
 else
 some (.inr (.inr ()))
def Qow : Option Bool:=
 some false
def Qox : Option Bool:=
 some true
def Qhm (a:QBg)(b:QBg)(c:Bool):Option Bool:=
 bif c then
 some false
 else
 (Qz (fun st=>Qc9 a b st) 0).bind (Sum.elim (fun q=>Qow) (fun q=>Qox))
def QkK (a:QBg)(b:QBg):Option Bool:=
 (Qov a b).bind (fun c=>Qhm a b c)
theorem Qve (k l){r}(h:QkK k l=some r):Qc prog 134 [.sl 2 (k.map Qp),.sl 2 (l.map Qp)] [] (Gives (.b r) []):=by
 refine wk_ 33 func134 fun C f=>?_
 refine tg_ f [7] ?_
 obtain⟨v,w,h⟩:=Qb h
 replace h:Qhm k l v=some r:=h
 refine AK.meetX (fun σ=>σ=⟨[(0,.sl 2 (k.map Qp)),(1,.sl 2 (l.map Qp)),(13,.b v)],[]⟩) ?_ ?_
 ·replace h:=w
  obtain⟨E,x,h⟩:=Qb h
  refine Qa f [2,.o (.C1 (.b E)),2] rfl (a1_ (Qf7 _ x)) ?_
  rcases Qm h with⟨m,h⟩|⟨m,h⟩
  ·refine Qa f [.S 9 (.b true),5,.K [0,1,13] []] rfl (tc_ m) ?_
   cases h
   exact mt_
  obtain⟨G,y,h⟩:=Qb h
  refine Qa f [.S 9 (.b false),1,.o (.C1 (.b G)),3,.K [0,1,13] []] rfl ⟨(tc_ m),(Qf7 _ y)⟩ ?_
  cases h
  exact mt_
 rintro σ rfl
 replace h:Qhm k l v=some r:=h
 refine tg_ f [1] ?_
 refine bq_ f h [.T,7,.K [4] []] rfl (fun g h=>?_) [.F,9,.K [0,1,5] []] rfl fun g h=>?_
 ·cases h
  exact d1_ tt_
 obtain⟨z,p,h⟩:=Qb h
 refine AK.loop (body:=(fun st=>Qc9 k l st)) (fun st σ=>σ=⟨[(0,.sl 2 (k.map Qp)),(1,.sl 2 (l.map Qp)),(5,.I st)],[]⟩) (Sum.elim (fun q e σ=>e=.ret/\σ=⟨[(4,.b false)],[]⟩) (fun q e σ=>e=.exit 0/\σ=⟨[],[]⟩)) p rfl ?_ ?_
 ·rintro H o σ rfl h
  refine Qa f [5,.o (.ln k.length),3] rfl (a1_ Qf) ?_
  rcases Qm h with⟨i,h⟩|⟨i,h⟩
  ·obtain⟨A,s,h⟩:=Qb h
   obtain⟨B,t,h⟩:=Qb h
   obtain⟨D,u,h⟩:=Qb h
   refine Qa f [.T,5,.K [0,1,5] []] rfl (a1_ i) ?_
   refine AK.draw2 Qo f mixed [.N,.N,.a (.row (Qp A)) none false,.N,.N,.N,.N,.N,.a (.row (Qp B)) none false,.N,.N,.a (.C2 (.I D)) none false,.N] [] [] [0,1,5,32] [] rfl rfl rfl ⟨⟨⟨tt_,(QJ s)⟩,(QJ t)⟩,(QpS _ _ u)⟩ rfl (by kernel_rfl) rfl rfl rfl ?_
   refine tg_ f [1] ?_
   refine bq_ f h [.T,8,.K [4] []] rfl (fun j h=>?_) [.F,8,.K [0,1,5] []] rfl fun j h=>?_
   ·cases h
    exact Qah rfl (an_ rfl rfl)
   cases h
   exact QY rfl rfl
  refine Qa f [.F,2,.K [] []] rfl (a1_ i) ?_
  cases h
  exact QZ rfl (an_ rfl rfl)
 rcases z with(_ | _)
 ·replace h:Qow=some r:=h
  rintro e σ ⟨rfl,rfl⟩
  refine tg_ f [2] ?_
  cases h
  exact d1_ tt_
 replace h:Qox=some r:=h
 rintro e σ ⟨rfl,rfl⟩
 refine tg_ f [8] ?_
 cases h
 exact d1_ tt_
def Qhn (d:QMk)(e:QMk)(a:Int):Option (Int⊕(Unit⊕Unit)):=
 bif (decide (a<(d.length:Int)))then
 (idx d a).bind fun f=>
 (idx e a).bind fun b=>
 (QkK f b).bind fun c=>
 bif (!c)then
 some (.inr (.inl ()))
 else
 some (.inl (w64 (a+1)))
 else
 some (.inr (.inr ()))
def Qoy : Option Bool:=
 some false
def Qoz : Option Bool:=
 some true
def QhJ (a:QMk)(b:QMk):Option Bool:=
 bif ((a.length:Int) != (b.length:Int))then
 some false
 else
 (Qz (fun st=>Qhn a b st) 0).bind (Sum.elim (fun q=>Qoy) (fun q=>Qoz))
theorem QoA (k l){r}(h:QhJ k l=some r):Qc prog 73 [.sl 1 (k.map Qs),.sl 1 (l.map Qs)] [] (Gives (.b r) []):=by
 refine wk_ 29 func73 fun C f=>?_
 refine Qa f [9,.o (.ln k.length),1,.o (.ln l.length),3] rfl (a2_ Qf Qf) ?_
 refine bq_ f h [.T,7,.K [4] []] rfl (fun i h=>?_) [.F,9,.K [0,1,5] []] rfl fun i h=>?_
 ·cases h
  exact d1_ tt_
 obtain⟨t,m,h⟩:=Qb h
 refine AK.loop (body:=(fun st=>Qhn k l st)) (fun st σ=>σ=⟨[(0,.sl 1 (k.map Qs)),(1,.sl 1 (l.map Qs)),(5,.I st)],[]⟩) (Sum.elim (fun q e σ=>e=.ret/\σ=⟨[(4,.b false)],[]⟩) (fun q e σ=>e=.exit 0/\σ=⟨[],[]⟩)) m rfl ?_ ?_
 ·rintro y o σ rfl h
  refine Qa f [5,.o (.ln k.length),3] rfl (a1_ Qf) ?_
  rcases Qm h with⟨j,h⟩|⟨j,h⟩
  ·obtain⟨x,u,h⟩:=Qb h
   obtain⟨v,p,h⟩:=Qb h
   obtain⟨w,s,h⟩:=Qb h
   refine Qa f [.T,5,.K [0,1,5] []] rfl (a1_ j) ?_
   refine AK.draw2 Qo f mixed [.N,.N,.a (.row (Qs x)) none false,.N,.N,.N,.a (.row (Qs v)) none false,.N,.a (.C2 (.b w)) none false,.N] [] [] [0,1,5,6] [] rfl rfl rfl ⟨⟨⟨tt_,(QJ u)⟩,(QJ p)⟩,(Qve _ _ s)⟩ rfl (by kernel_rfl) rfl rfl rfl ?_
   refine tg_ f [7] ?_
   refine bq_ f h [.T,8,.K [4] []] rfl (fun g h=>?_) [.F,8,.K [0,1,5] []] rfl fun g h=>?_
   ·cases h
    exact Qah rfl (an_ rfl rfl)
   cases h
   exact QY rfl rfl
  refine Qa f [.F,2,.K [] []] rfl (a1_ j) ?_
  cases h
  exact QZ rfl (an_ rfl rfl)
 rcases t with(_ | _)
 ·replace h:Qoy=some r:=h
  rintro e σ ⟨rfl,rfl⟩
  refine tg_ f [2] ?_
  cases h
  exact d1_ tt_
 replace h:Qoz=some r:=h
 rintro e σ ⟨rfl,rfl⟩
 refine tg_ f [8] ?_
 cases h
 exact d1_ tt_
def Qfj (b:(List Int))(c:Int)(a:Int):Option (Int⊕(Unit⊕Unit)):=
 bif (decide (a<(b.length:Int)))then
 (idx b a).bind fun d=>
 bif (d==c)then
 some (.inr (.inl ()))
 else
 some (.inl (w64 (a+1)))
 else
 some (.inr (.inr ()))
def Qtg : Option Bool:=
 some true
def Qth : Option Bool:=
 some false
def QoS (a:(List Int))(b:Int):Option Bool:=
 (Qz (fun st=>Qfj a b st) 0).bind (Sum.elim (fun q=>Qtg) (fun q=>Qth))
theorem Qyy (f i){r}(h:QoS f i=some r):Qc prog 74 [.sl 1 (f.map Qe),.I i] [] (Gives (.b r) []):=by
 refine wk_ 18 func74 fun C a=>?_
 refine tg_ a [12,.K [0,1,5] []] ?_
 obtain⟨j,g,h⟩:=Qb h
 refine AK.loop (body:=(fun st=>Qfj f i st)) (fun st σ=>σ=⟨[(0,.sl 1 (f.map Qe)),(1,.I i),(5,.I st)],[]⟩) (Sum.elim (fun q e σ=>e=.ret/\σ=⟨[(4,.b true)],[]⟩) (fun q e σ=>e=.exit 0/\σ=⟨[],[]⟩)) g rfl ?_ ?_
 ·rintro m o σ rfl h
  refine Qa a [5,.o (.ln f.length),3] rfl (a1_ Qf) ?_
  rcases Qm h with⟨c,h⟩|⟨c,h⟩
  ·obtain⟨l,k,h⟩:=Qb h
   refine Qa a [.T,8,.o (.row (Qe l)),5] rfl (a2_ c (QJ k)) ?_
   refine bq_ a h [.T,8,.K [4] []] rfl (fun d h=>?_) [.F,8,.K [0,1,5] []] rfl fun d h=>?_
   ·cases h
    exact Qah rfl (an_ rfl rfl)
   cases h
   exact QY rfl rfl
  refine Qa a [.F,2,.K [] []] rfl (a1_ c) ?_
  cases h
  exact QZ rfl (an_ rfl rfl)
 rcases j with(_ | _)
 ·replace h:Qtg=some r:=h
  rintro e σ ⟨rfl,rfl⟩
  refine tg_ a [2] ?_
  cases h
  exact d1_ tt_
 replace h:Qth=some r:=h
 rintro e σ ⟨rfl,rfl⟩
 refine tg_ a [8] ?_
 cases h
 exact d1_ tt_

end Go.Proofs
