/- What functions of the program do, as functions over plain data, and the walks that show it: printed by a program. -/
import Derived.Test.YtpijolohkdchcaaGreatDoorT2
set_option linter.unusedVariables false
set_option linter.unusedSimpArgs false
set_option linter.unusedSectionVars false
set_option linter.deprecated false
set_option maxRecDepth 100000
set_option maxHeartbeats 4000000
noncomputable section
namespace Go.Proofs
open Go Go.RowKit Go.Vm
def Qdv (v1:TNet)(v2:Qr)(v3:Int):Option (Bool×Int):=
 (QfD v1 v2).bind fun x6=>
 some ((x6==0),x6)
theorem QmB (v1:TNet)(v2:Qr)(v3:Int){r:(Bool×Int)}(h:Qdv v1 v2 v3=some r):Qc Tryz.prog 170 [.loc 200000 0 0,.loc 200003 0 0] [(200000,.var [.clo (.func 132) [] [.loc 200001 0 0,.loc 200002 0 0]]),(200001,.var (Qd v1)),(200002,.var (Qi v2)),(200003,.var [.loc 200004 0 0]),(200004,.var (Qe v3))] (Gives (.b r.1) [(200000,.var [.clo (.func 132) [] [.loc 200001 0 0,.loc 200002 0 0]]),(200001,.var (Qd v1)),(200002,.var (Qi v2)),(200003,.var [.loc 200004 0 0]),(200004,.var (Qe r.2))]):=by
 refine Qc.walk 11 Tryz.func170 rfl Tryz.ntmps170 rfl fun C hC=>?_
 unfold Qdv at h
 obtain⟨x6,hx6,h⟩:=Qb h
 refine Qa hC [.n 6,.keep [0,1] [200000,200001,200002,200003,200004]] rfl tt_ ?_
 refine AK.draw2 Qp hC mixed [.a .no none false,.a .no none false,.a (.any (.i .i64 x6) none) none false,.a .no none false,.m .s] [] [] [1] [200000,200001,200002,200003,200004] rfl rfl rfl ⟨tt_,(fun σ h1 h2 _=>Stp.callSame (md:=.cm (.clo) [(200000,200001),(200001,200002)] [(200001,200000),(200002,200001)] [] [.d,.d] [(200000,.var (Qd v1)),(200001,.var (Qi v2))] (.i .i64 x6) [200001,200002]) Qp hC h1 h2 rfl ⟨⟨tt_,(Qoe _ _ hx6)⟩,⟨rfl,rfl,tt_⟩⟩)⟩ rfl (by kernel_rfl) rfl rfl rfl ?_
 refine Qa hC [.sayO 200004 (.var (Qe x6)),.n 11,.keep [2] [200000,200001,200002,200003,200004]] rfl ⟨tt_,rfl⟩ ?_
 cases h
 exact AK.done (ex_ [_] (an_ (an_ rfl tt_) (gives ⟨rfl,rfl,rfl,rfl,rfl,tt_⟩)))
def QdJ (k1:Int)(l2:(List TArc)):Option Bool:=
 some ((decide (1≤k1))&&((decide (k1≤3))&&((k1 != 3)||(decide ((l2.length:Int)≤4)))))
theorem Qkx (k1:Int)(l2:(List TArc)){r:Bool}(h:QdJ k1 l2=some r):Qc Tryz.prog 189 [.i .i64 k1,.sl 4 (l2.map QP)] [] (Gives (.b r) []):=by
 refine Qc.walk 20 Tryz.func189 rfl Tryz.ntmps189 rfl fun C hC=>?_
 unfold QdJ at h
 refine Qa hC [.n 6] rfl tt_ ?_
 refine AK.meetX (fun σ=>σ=⟨[(4,.b ((decide (1≤k1))&&((decide (k1≤3))&&((k1 != 3)||(decide ((l2.length:Int)≤4))))))],[]⟩) ?_ ?_
 ·refine Qa hC [.n 4] rfl tt_ ?_
  rcases QJ (decide (1≤k1))with hc5 | hc5
  ·refine Qa hC [.say 7 (.b true),.n 4] rfl ⟨tt_,(congrArg V.b hc5)⟩ ?_
   rcases QJ (decide (k1≤3))with hc6 | hc6
   ·refine Qa hC [.say 11 (.b true),.n 3] rfl ⟨tt_,(congrArg V.b hc6)⟩ ?_
    rcases QJ (k1 != 3)with hc7 | hc7
    ·refine Qa hC [.say 14 (.b true),.n 7,.say 4 (.b ((decide (1≤k1))&&((decide (k1≤3))&&((k1 != 3)||(decide ((l2.length:Int)≤4)))))),.keep [4] []] rfl ⟨⟨tt_,(congrArg V.b hc7)⟩,(congrArg V.b (andT hc5 (andT hc6 (orT hc7 rfl))))⟩ ?_
     exact AK.met rfl
    ·refine Qa hC [.say 14 (.b false),.n 1,.o (.ln l2.length),.n 5,.say 4 (.b ((decide (1≤k1))&&((decide (k1≤3))&&((k1 != 3)||(decide ((l2.length:Int)≤4)))))),.keep [4] []] rfl ⟨⟨⟨tt_,(congrArg V.b hc7)⟩,Qg⟩,(congrArg V.b (andT hc5 (andT hc6 (orF hc7 rfl))))⟩ ?_
     exact AK.met rfl
   ·refine Qa hC [.say 11 (.b false),.n 10,.say 4 (.b ((decide (1≤k1))&&((decide (k1≤3))&&((k1 != 3)||(decide ((l2.length:Int)≤4)))))),.keep [4] []] rfl ⟨⟨tt_,(congrArg V.b hc6)⟩,(congrArg V.b (andT hc5 (andF hc6 rfl)))⟩ ?_
    exact AK.met rfl
  ·refine Qa hC [.say 7 (.b false),.n 14,.say 4 (.b ((decide (1≤k1))&&((decide (k1≤3))&&((k1 != 3)||(decide ((l2.length:Int)≤4)))))),.keep [4] []] rfl ⟨⟨tt_,(congrArg V.b hc5)⟩,(congrArg V.b (andF hc5 rfl))⟩ ?_
   exact AK.met rfl
 ·rintro σ rfl
  refine Qa hC [.n 2,.keep [4] []] rfl tt_ ?_
  cases h
  exact AK.done (ex_ [_] (an_ (an_ rfl tt_) (gives tt_)))
def Qi9 (t1:Qr):Option Bool:=
 (QdJ t1.Join t1.Ins).bind fun x11=>
 bif x11 then
 (QdJ t1.Split t1.Outs).bind fun x13=>
 bif x13 then
 bif (decide (0≤t1.After))then
 bif (decide (t1.After≤65536))then
 some (((t1.Many.1==0)&&((t1.Many.2.1==0)&&(t1.Many.2.2==0)))||((decide (1≤t1.Many.1))&&((decide (t1.Many.1≤t1.Many.2.1))&&((decide (t1.Many.2.1≤16))&&((decide (1≤t1.Many.2.2))&&(decide (t1.Many.2.2≤t1.Many.2.1)))))))
 else
 some false
 else
 some false
 else
 some false
 else
 some false
def QeX (x9:Bool):Option Bool:=
 some x9
def Qg2 (t1:Qr):Option Bool:=
 (Qi9 t1).bind (fun x9=>QeX x9)
theorem QpA (t1:Qr){r:Bool}(h:Qg2 t1=some r):Qc Tryz.prog 135 [.agg (Qi t1)] [] (Gives (.b r) []):=by
 refine Qc.walk 70 Tryz.func135 rfl Tryz.ntmps135 rfl fun C hC=>?_
 unfold Qg2 at h
 refine Qa hC [.n 7,.keep [1] [1]] rfl tt_ ?_
 refine AK.draw2 Qp hC mixed [.a .no none false,.a .no none false,.a .no none false,.a .no none false,.a .no none false,.a .no none false,.a .no none false,.a .no none false,.a .no none false,.a .no none false,.a .no none false,.a .no none false] [] [] [1,3,4,5] [1] rfl rfl rfl tt_ rfl (by kernel_rfl) rfl rfl rfl ?_
 refine Qa hC [.n 2] rfl tt_ ?_
 refine AK.meetX (fun σ=>σ=⟨[(1,.loc 1 0 0),(6,.b (((t1.Many.1==0)&&((t1.Many.2.1==0)&&(t1.Many.2.2==0)))||((decide (1≤t1.Many.1))&&((decide (t1.Many.1≤t1.Many.2.1))&&((decide (t1.Many.2.1≤16))&&((decide (1≤t1.Many.2.2))&&(decide (t1.Many.2.2≤t1.Many.2.1))))))))],[(1,.var (Qi t1))]⟩) ?_ ?_
 ·refine Qa hC [.n 2,.v .no [] (.agg (QqI t1.Many)),.v .no [] (.agg (QqI (0,0,0))),.o (.any (.b ((t1.Many.1==0)&&((t1.Many.2.1==0)&&(t1.Many.2.2==0)))) none),.n 1] rfl ⟨⟨⟨tt_,rfl⟩,rfl⟩,(fun σ h1 h2 _=>Stp.eqAgg rfl rfl (bleN hC.n rfl) (h1 _ _ rfl) (h1 _ _ rfl) rfl rfl (Qva _ _ _ _ _ _))⟩ ?_
  rcases QJ ((t1.Many.1==0)&&((t1.Many.2.1==0)&&(t1.Many.2.2==0)))with hc4 | hc4
  ·refine Qa hC [.say 21 (.b true),.n 23,.say 6 (.b (((t1.Many.1==0)&&((t1.Many.2.1==0)&&(t1.Many.2.2==0)))||((decide (1≤t1.Many.1))&&((decide (t1.Many.1≤t1.Many.2.1))&&((decide (t1.Many.2.1≤16))&&((decide (1≤t1.Many.2.2))&&(decide (t1.Many.2.2≤t1.Many.2.1)))))))),.keep [1,6] [1]] rfl ⟨⟨tt_,(congrArg V.b hc4)⟩,(congrArg V.b (orT hc4 rfl))⟩ ?_
   exact AK.met rfl
  ·refine Qa hC [.say 21 (.b false),.n 3] rfl ⟨tt_,(congrArg V.b hc4)⟩ ?_
   rcases QJ (decide (1≤t1.Many.1))with hc5 | hc5
   ·refine Qa hC [.say 24 (.b true),.n 5] rfl ⟨tt_,(congrArg V.b hc5)⟩ ?_
    rcases QJ (decide (t1.Many.1≤t1.Many.2.1))with hc6 | hc6
    ·refine Qa hC [.say 29 (.b true),.n 4] rfl ⟨tt_,(congrArg V.b hc6)⟩ ?_
     rcases QJ (decide (t1.Many.2.1≤16))with hc7 | hc7
     ·refine Qa hC [.say 33 (.b true),.n 4] rfl ⟨tt_,(congrArg V.b hc7)⟩ ?_
      rcases QJ (decide (1≤t1.Many.2.2))with hc8 | hc8
      ·refine Qa hC [.say 37 (.b true),.n 7,.say 6 (.b (((t1.Many.1==0)&&((t1.Many.2.1==0)&&(t1.Many.2.2==0)))||((decide (1≤t1.Many.1))&&((decide (t1.Many.1≤t1.Many.2.1))&&((decide (t1.Many.2.1≤16))&&((decide (1≤t1.Many.2.2))&&(decide (t1.Many.2.2≤t1.Many.2.1)))))))),.keep [1,6] [1]] rfl ⟨⟨tt_,(congrArg V.b hc8)⟩,(congrArg V.b (orF hc4 (andT hc5 (andT hc6 (andT hc7 (andT hc8 rfl))))))⟩ ?_
       exact AK.met rfl
      ·refine Qa hC [.say 37 (.b false),.n 7,.say 6 (.b (((t1.Many.1==0)&&((t1.Many.2.1==0)&&(t1.Many.2.2==0)))||((decide (1≤t1.Many.1))&&((decide (t1.Many.1≤t1.Many.2.1))&&((decide (t1.Many.2.1≤16))&&((decide (1≤t1.Many.2.2))&&(decide (t1.Many.2.2≤t1.Many.2.1)))))))),.keep [1,6] [1]] rfl ⟨⟨tt_,(congrArg V.b hc8)⟩,(congrArg V.b (orF hc4 (andT hc5 (andT hc6 (andT hc7 (andF hc8 rfl))))))⟩ ?_
       exact AK.met rfl
     ·refine Qa hC [.say 33 (.b false),.n 11,.say 6 (.b (((t1.Many.1==0)&&((t1.Many.2.1==0)&&(t1.Many.2.2==0)))||((decide (1≤t1.Many.1))&&((decide (t1.Many.1≤t1.Many.2.1))&&((decide (t1.Many.2.1≤16))&&((decide (1≤t1.Many.2.2))&&(decide (t1.Many.2.2≤t1.Many.2.1)))))))),.keep [1,6] [1]] rfl ⟨⟨tt_,(congrArg V.b hc7)⟩,(congrArg V.b (orF hc4 (andT hc5 (andT hc6 (andF hc7 rfl)))))⟩ ?_
      exact AK.met rfl
    ·refine Qa hC [.say 29 (.b false),.n 15,.say 6 (.b (((t1.Many.1==0)&&((t1.Many.2.1==0)&&(t1.Many.2.2==0)))||((decide (1≤t1.Many.1))&&((decide (t1.Many.1≤t1.Many.2.1))&&((decide (t1.Many.2.1≤16))&&((decide (1≤t1.Many.2.2))&&(decide (t1.Many.2.2≤t1.Many.2.1)))))))),.keep [1,6] [1]] rfl ⟨⟨tt_,(congrArg V.b hc6)⟩,(congrArg V.b (orF hc4 (andT hc5 (andF hc6 rfl))))⟩ ?_
     exact AK.met rfl
   ·refine Qa hC [.say 24 (.b false),.n 20,.say 6 (.b (((t1.Many.1==0)&&((t1.Many.2.1==0)&&(t1.Many.2.2==0)))||((decide (1≤t1.Many.1))&&((decide (t1.Many.1≤t1.Many.2.1))&&((decide (t1.Many.2.1≤16))&&((decide (1≤t1.Many.2.2))&&(decide (t1.Many.2.2≤t1.Many.2.1)))))))),.keep [1,6] [1]] rfl ⟨⟨tt_,(congrArg V.b hc5)⟩,(congrArg V.b (orF hc4 (andF hc5 rfl)))⟩ ?_
    exact AK.met rfl
 ·rintro σ rfl
  refine Qa hC [.n 7] rfl tt_ ?_
  obtain⟨x9,hv10,h⟩:=Qb h
  replace h:QeX x9=some r:=h
  refine AK.meetX (fun σ=>σ=⟨[(2,.b x9)],[]⟩) ?_ ?_
  ·replace h:=hv10
   unfold Qi9 at h
   obtain⟨x11,hx11,h⟩:=Qb h
   refine Qa hC [.n 6,.o (.c false [.d,.d] (.b x11)),.n 1] rfl ⟨tt_,(Qkx _ _ hx11)⟩ ?_
   rcases bifE h with⟨hc12,h⟩|⟨hc12,h⟩
   ·obtain⟨x13,hx13,h⟩:=Qb h
    refine Qa hC [.say 49 (.b true),.n 5,.o (.c false [.d,.d] (.b x13)),.n 2] rfl ⟨⟨tt_,(congrArg V.b hc12)⟩,(Qkx _ _ hx13)⟩ ?_
    rcases bifE h with⟨hc14,h⟩|⟨hc14,h⟩
    ·refine Qa hC [.say 57 (.b true),.n 5] rfl ⟨tt_,(congrArg V.b hc14)⟩ ?_
     rcases bifE h with⟨hc15,h⟩|⟨hc15,h⟩
     ·refine Qa hC [.say 62 (.b true),.n 5] rfl ⟨tt_,(congrArg V.b hc15)⟩ ?_
      rcases bifE h with⟨hc16,h⟩|⟨hc16,h⟩
      ·refine Qa hC [.say 67 (.b true),.n 4,.keep [2] []] rfl ⟨tt_,(congrArg V.b hc16)⟩ ?_
       cases h
       exact AK.met rfl
      ·refine Qa hC [.say 67 (.b false),.n 4,.keep [2] []] rfl ⟨tt_,(congrArg V.b hc16)⟩ ?_
       cases h
       exact AK.met rfl
     ·refine Qa hC [.say 62 (.b false),.n 9,.keep [2] []] rfl ⟨tt_,(congrArg V.b hc15)⟩ ?_
      cases h
      exact AK.met rfl
    ·refine Qa hC [.say 57 (.b false),.n 14,.keep [2] []] rfl ⟨tt_,(congrArg V.b hc14)⟩ ?_
     cases h
     exact AK.met rfl
   ·refine Qa hC [.say 49 (.b false),.n 22,.keep [2] []] rfl ⟨tt_,(congrArg V.b hc12)⟩ ?_
    cases h
    exact AK.met rfl
  ·rintro σ rfl
   replace h:QeX x9=some r:=h
   unfold QeX at h
   refine Qa hC [.n 2,.keep [2] []] rfl tt_ ?_
   cases h
   exact AK.done (ex_ [_] (an_ (an_ rfl tt_) (gives tt_)))
def QfE (v1:Qr):Option Bool:=
 (Qg2 v1).bind fun x3=>
 some x3
theorem Qof (v1:Qr){r:Bool}(h:QfE v1=some r):Qc Tryz.prog 134 [.loc 200000 0 0] [(200000,.var (Qi v1))] (Gives (.b r) [(200000,.var (Qi v1))]):=by
 refine Qc.walk 4 Tryz.func134 rfl Tryz.ntmps134 rfl fun C hC=>?_
 unfold QfE at h
 obtain⟨x3,hx3,h⟩:=Qb h
 refine Qa hC [.n 7,.v .no [] (.agg (Qi v1)),.o (.c false [.d] (.b x3)),.n 4,.keep [1] [200000]] rfl ⟨⟨tt_,rfl⟩,(QpA _ hx3)⟩ ?_
 cases h
 exact AK.done (ex_ [_] (an_ (an_ rfl tt_) (gives ⟨rfl,tt_⟩)))
def Qde (v1:Qr)(v2:Int)(v3:TNet)(v4:Int)(v5:Int)(v6:Int)(v7:Int)(v8:Int)(v9:Int)(v10:Int)(v11:Int)(v12:Int)(v13:Int)(v14:Int)(v15:Int):Option (Int×Int):=
 (Qgh v1).bind fun x20=>
 bif (!x20)then
 some (v2,v8)
 else
 (Qgk v3 v4 v1).bind fun x22=>
 bif (!x22)then
 some (v5,v8)
 else
 (Qeq v6 v1).bind fun x24=>
 bif (!x24)then
 some (v7,v8)
 else
 (QfB v3 v1 v8).bind fun x26=>
 bif (!x26.1)then
 some (v9,x26.2)
 else
 (Qgm v3 v4).bind fun x28=>
 bif (!x28)then
 some (v10,x26.2)
 else
 (Qgn v1 v6).bind fun x30=>
 bif (!x30)then
 some (v11,x26.2)
 else
 (Qdt v3 v1 v6 x26.2).bind fun x32=>
 bif (!x32.1)then
 some (v12,x32.2)
 else
 (Qdu v3 v1 v6 x32.2).bind fun x34=>
 bif (!x34.1)then
 some (v13,x34.2)
 else
 (Qdv v3 v1 x34.2).bind fun x36=>
 bif (!x36.1)then
 some (v14,x36.2)
 else
 (QfE v1).bind fun x38=>
 bif (!x38)then
 some (v15,x36.2)
 else
 some (0,x36.2)
theorem QnC (v1:Qr)(v2:Int)(v3:TNet)(v4:Int)(v5:Int)(v6:Int)(v7:Int)(v8:Int)(v9:Int)(v10:Int)(v11:Int)(v12:Int)(v13:Int)(v14:Int)(v15:Int){r:(Int×Int)}(h:Qde v1 v2 v3 v4 v5 v6 v7 v8 v9 v10 v11 v12 v13 v14 v15=some r):Qc Tryz.prog 57 [.own 200000 10] [(200000,.var [.clo (.func 119) [] [.loc 200001 0 0],.i .i64 v2,.clo (.func 120) [] [.loc 200002 0 0,.loc 200003 0 0,.loc 200004 0 0],.i .i64 v5,.clo (.func 122) [] [.loc 200005 0 0,.loc 200001 0 0],.i .i64 v7,.clo (.func 170) [] [.loc 200006 0 0,.loc 200007 0 0],.i .i64 v9,.clo (.func 126) [] [.loc 200002 0 0,.loc 200003 0 0],.i .i64 v10,.clo (.func 127) [] [.loc 200001 0 0,.loc 200005 0 0],.i .i64 v11,.clo (.func 170) [] [.loc 200009 0 0,.loc 200010 0 0],.i .i64 v12,.clo (.func 170) [] [.loc 200011 0 0,.loc 200012 0 0],.i .i64 v13,.clo (.func 170) [] [.loc 200013 0 0,.loc 200014 0 0],.i .i64 v14,.clo (.func 134) [] [.loc 200001 0 0],.i .i64 v15]),(200001,.var (Qi v1)),(200002,.var (Qd v3)),(200003,.var (Qe v4)),(200004,.var [.clo (.func 118) [] [.loc 200001 0 0]]),(200005,.var (Qe v6)),(200006,.var [.clo (.func 124) [] [.loc 200002 0 0,.loc 200001 0 0]]),(200007,.var [.loc 200008 0 0]),(200008,.var (Qe v8)),(200009,.var [.clo (.func 129) [] [.loc 200002 0 0,.loc 200001 0 0,.loc 200005 0 0]]),(200010,.var [.loc 200008 0 0]),(200011,.var [.clo (.func 131) [] [.loc 200002 0 0,.loc 200001 0 0,.loc 200005 0 0]]),(200012,.var [.loc 200008 0 0]),(200013,.var [.clo (.func 132) [] [.loc 200002 0 0,.loc 200001 0 0]]),(200014,.var [.loc 200008 0 0])] (Gives (.i .i64 r.1) [(200000,.var [.clo (.func 119) [] [.loc 200001 0 0],.i .i64 v2,.clo (.func 120) [] [.loc 200002 0 0,.loc 200003 0 0,.loc 200004 0 0],.i .i64 v5,.clo (.func 122) [] [.loc 200005 0 0,.loc 200001 0 0],.i .i64 v7,.clo (.func 170) [] [.loc 200006 0 0,.loc 200007 0 0],.i .i64 v9,.clo (.func 126) [] [.loc 200002 0 0,.loc 200003 0 0],.i .i64 v10,.clo (.func 127) [] [.loc 200001 0 0,.loc 200005 0 0],.i .i64 v11,.clo (.func 170) [] [.loc 200009 0 0,.loc 200010 0 0],.i .i64 v12,.clo (.func 170) [] [.loc 200011 0 0,.loc 200012 0 0],.i .i64 v13,.clo (.func 170) [] [.loc 200013 0 0,.loc 200014 0 0],.i .i64 v14,.clo (.func 134) [] [.loc 200001 0 0],.i .i64 v15]),(200001,.var (Qi v1)),(200002,.var (Qd v3)),(200003,.var (Qe v4)),(200004,.var [.clo (.func 118) [] [.loc 200001 0 0]]),(200005,.var (Qe v6)),(200006,.var [.clo (.func 124) [] [.loc 200002 0 0,.loc 200001 0 0]]),(200007,.var [.loc 200008 0 0]),(200008,.var (Qe r.2)),(200009,.var [.clo (.func 129) [] [.loc 200002 0 0,.loc 200001 0 0,.loc 200005 0 0]]),(200010,.var [.loc 200008 0 0]),(200011,.var [.clo (.func 131) [] [.loc 200002 0 0,.loc 200001 0 0,.loc 200005 0 0]]),(200012,.var [.loc 200008 0 0]),(200013,.var [.clo (.func 132) [] [.loc 200002 0 0,.loc 200001 0 0]]),(200014,.var [.loc 200008 0 0])]):=by
 refine Qc.walk 18 Tryz.func57 rfl Tryz.ntmps57 rfl fun C hC=>?_
 unfold Qde at h
 refine Qa hC [.n 14] rfl tt_ ?_
 refine AK.loopN 11 (AK.rnd ?_)
 obtain⟨x20,hx20,h⟩:=Qb h
 refine Qa hC [.n 2,.v .no [] (.b true),.n 10,.o (.any (.loc 200000 0 0) none),.n 3,.sayO 4 (.var [.clo (.func 119) [] [.loc 200001 0 0],.i .i64 v2]),.n 6,.cm (.clo) [(200000,200001)] [(200001,200000)] [] [.d] [(200000,.var (Qi v1))] (.b x20),.n 3] rfl ⟨⟨⟨⟨tt_,rfl⟩,(fun σ h1 h2 _=>Stp.idxV rfl rfl (bleN hC.n rfl) (h1 _ _ rfl) (h1 _ _ rfl) (Qp.es rfl) (h2 _ _ rfl) (by decide))⟩,rfl⟩,(QoQ _ hx20)⟩ ?_
 rcases bifE h with⟨hc21,h⟩|⟨hc21,h⟩
 ·refine Qa hC [.br true,.n 13,.keep [2] [200000,200001,200002,200003,200004,200005,200006,200007,200008,200009,200010,200011,200012,200013,200014]] rfl ⟨tt_,hc21⟩ ?_
  cases h
  exact AK.done (ex_ [_] (an_ (an_ rfl tt_) (gives ⟨rfl,rfl,rfl,rfl,rfl,rfl,rfl,rfl,rfl,rfl,rfl,rfl,rfl,rfl,rfl,tt_⟩)))
 ·refine Qa hC [.br false,.n 4,.v .no [] (.i .i64 1),.n 2] rfl ⟨⟨tt_,hc21⟩,rfl⟩ ?_
  refine AK.met (AK.rnd ?_)
  obtain⟨x22,hx22,h⟩:=Qb h
  refine Qa hC [.n 2,.v .no [] (.b true),.n 10,.o (.any (.loc 200000 0 2) none),.n 1,.kill 4,.n 2,.sayO 4 (.var [.clo (.func 120) [] [.loc 200002 0 0,.loc 200003 0 0,.loc 200004 0 0],.i .i64 v5]),.n 6,.cm (.clo) [(200000,200002),(200001,200003),(200002,200004),(200003,200001)] [(200002,200000),(200003,200001),(200004,200002),(200001,200003)] [] [.d,.d,.d] [(200000,.var (Qd v3)),(200001,.var (Qe v4)),(200002,.var [.clo (.func 118) [] [.loc 200003 0 0]]),(200003,.var (Qi v1))] (.b x22),.n 3] rfl ⟨⟨⟨⟨tt_,rfl⟩,(fun σ h1 h2 _=>Stp.idxV rfl rfl (bleN hC.n rfl) (h1 _ _ rfl) (h1 _ _ rfl) (Qp.es rfl) (h2 _ _ rfl) (by decide))⟩,rfl⟩,(QoS _ _ _ hx22)⟩ ?_
  rcases bifE h with⟨hc23,h⟩|⟨hc23,h⟩
  ·refine Qa hC [.br true,.n 13,.keep [2] [200000,200001,200002,200003,200004,200005,200006,200007,200008,200009,200010,200011,200012,200013,200014]] rfl ⟨tt_,hc23⟩ ?_
   cases h
   exact AK.done (ex_ [_] (an_ (an_ rfl tt_) (gives ⟨rfl,rfl,rfl,rfl,rfl,rfl,rfl,rfl,rfl,rfl,rfl,rfl,rfl,rfl,rfl,tt_⟩)))
  ·refine Qa hC [.br false,.n 4,.v .no [] (.i .i64 2),.n 2] rfl ⟨⟨tt_,hc23⟩,rfl⟩ ?_
   refine AK.met (AK.rnd ?_)
   obtain⟨x24,hx24,h⟩:=Qb h
   refine Qa hC [.n 2,.v .no [] (.b true),.n 10,.o (.any (.loc 200000 0 4) none),.n 1,.kill 4,.n 2,.sayO 4 (.var [.clo (.func 122) [] [.loc 200005 0 0,.loc 200001 0 0],.i .i64 v7]),.n 6,.cm (.clo) [(200000,200005),(200001,200001)] [(200005,200000),(200001,200001)] [] [.d,.d] [(200000,.var (Qe v6)),(200001,.var (Qi v1))] (.b x24),.n 3] rfl ⟨⟨⟨⟨tt_,rfl⟩,(fun σ h1 h2 _=>Stp.idxV rfl rfl (bleN hC.n rfl) (h1 _ _ rfl) (h1 _ _ rfl) (Qp.es rfl) (h2 _ _ rfl) (by decide))⟩,rfl⟩,(QoT _ _ hx24)⟩ ?_
   rcases bifE h with⟨hc25,h⟩|⟨hc25,h⟩
   ·refine Qa hC [.br true,.n 13,.keep [2] [200000,200001,200002,200003,200004,200005,200006,200007,200008,200009,200010,200011,200012,200013,200014]] rfl ⟨tt_,hc25⟩ ?_
    cases h
    exact AK.done (ex_ [_] (an_ (an_ rfl tt_) (gives ⟨rfl,rfl,rfl,rfl,rfl,rfl,rfl,rfl,rfl,rfl,rfl,rfl,rfl,rfl,rfl,tt_⟩)))
   ·refine Qa hC [.br false,.n 4,.v .no [] (.i .i64 3),.n 2] rfl ⟨⟨tt_,hc25⟩,rfl⟩ ?_
    refine AK.met (AK.rnd ?_)
    obtain⟨x26,hx26,h⟩:=Qb h
    refine Qa hC [.n 2,.v .no [] (.b true),.n 10,.o (.any (.loc 200000 0 6) none),.n 1,.kill 4,.n 2,.sayO 4 (.var [.clo (.func 170) [] [.loc 200006 0 0,.loc 200007 0 0],.i .i64 v9]),.n 6,.cm (.clo) [(200000,200006),(200001,200002),(200002,200001),(200003,200007),(200004,200008)] [(200006,200000),(200002,200001),(200001,200002),(200007,200003),(200008,200004)] [] [.d,.d] [(200000,.var [.clo (.func 124) [] [.loc 200001 0 0,.loc 200002 0 0]]),(200001,.var (Qd v3)),(200002,.var (Qi v1)),(200003,.var [.loc 200004 0 0]),(200004,.var (Qe x26.2))] (.b x26.1),.n 3] rfl ⟨⟨⟨⟨tt_,rfl⟩,(fun σ h1 h2 _=>Stp.idxV rfl rfl (bleN hC.n rfl) (h1 _ _ rfl) (h1 _ _ rfl) (Qp.es rfl) (h2 _ _ rfl) (by decide))⟩,rfl⟩,(Qoc _ _ _ hx26)⟩ ?_
    rcases bifE h with⟨hc27,h⟩|⟨hc27,h⟩
    ·refine Qa hC [.br true,.n 13,.keep [2] [200000,200001,200002,200003,200004,200005,200006,200007,200008,200009,200010,200011,200012,200013,200014]] rfl ⟨tt_,hc27⟩ ?_
     cases h
     exact AK.done (ex_ [_] (an_ (an_ rfl tt_) (gives ⟨rfl,rfl,rfl,rfl,rfl,rfl,rfl,rfl,rfl,rfl,rfl,rfl,rfl,rfl,rfl,tt_⟩)))
    ·refine Qa hC [.br false,.n 4,.v .no [] (.i .i64 4),.n 2] rfl ⟨⟨tt_,hc27⟩,rfl⟩ ?_
     refine AK.met (AK.rnd ?_)
     obtain⟨x28,hx28,h⟩:=Qb h
     refine Qa hC [.n 2,.v .no [] (.b true),.n 10,.o (.any (.loc 200000 0 8) none),.n 1,.kill 4,.n 2,.sayO 4 (.var [.clo (.func 126) [] [.loc 200002 0 0,.loc 200003 0 0],.i .i64 v10]),.n 6,.cm (.clo) [(200000,200002),(200001,200003)] [(200002,200000),(200003,200001)] [] [.d,.d] [(200000,.var (Qd v3)),(200001,.var (Qe v4))] (.b x28),.n 3] rfl ⟨⟨⟨⟨tt_,rfl⟩,(fun σ h1 h2 _=>Stp.idxV rfl rfl (bleN hC.n rfl) (h1 _ _ rfl) (h1 _ _ rfl) (Qp.es rfl) (h2 _ _ rfl) (by decide))⟩,rfl⟩,(QoV _ _ hx28)⟩ ?_
     rcases bifE h with⟨hc29,h⟩|⟨hc29,h⟩
     ·refine Qa hC [.br true,.n 13,.keep [2] [200000,200001,200002,200003,200004,200005,200006,200007,200008,200009,200010,200011,200012,200013,200014]] rfl ⟨tt_,hc29⟩ ?_
      cases h
      exact AK.done (ex_ [_] (an_ (an_ rfl tt_) (gives ⟨rfl,rfl,rfl,rfl,rfl,rfl,rfl,rfl,rfl,rfl,rfl,rfl,rfl,rfl,rfl,tt_⟩)))
     ·refine Qa hC [.br false,.n 4,.v .no [] (.i .i64 5),.n 2] rfl ⟨⟨tt_,hc29⟩,rfl⟩ ?_
      refine AK.met (AK.rnd ?_)
      obtain⟨x30,hx30,h⟩:=Qb h
      refine Qa hC [.n 2,.v .no [] (.b true),.n 10,.o (.any (.loc 200000 0 10) none),.n 1,.kill 4,.n 2,.sayO 4 (.var [.clo (.func 127) [] [.loc 200001 0 0,.loc 200005 0 0],.i .i64 v11]),.n 6,.cm (.clo) [(200000,200001),(200001,200005)] [(200001,200000),(200005,200001)] [] [.d,.d] [(200000,.var (Qi v1)),(200001,.var (Qe v6))] (.b x30),.n 3] rfl ⟨⟨⟨⟨tt_,rfl⟩,(fun σ h1 h2 _=>Stp.idxV rfl rfl (bleN hC.n rfl) (h1 _ _ rfl) (h1 _ _ rfl) (Qp.es rfl) (h2 _ _ rfl) (by decide))⟩,rfl⟩,(QoW _ _ hx30)⟩ ?_
      rcases bifE h with⟨hc31,h⟩|⟨hc31,h⟩
      ·refine Qa hC [.br true,.n 13,.keep [2] [200000,200001,200002,200003,200004,200005,200006,200007,200008,200009,200010,200011,200012,200013,200014]] rfl ⟨tt_,hc31⟩ ?_
       cases h
       exact AK.done (ex_ [_] (an_ (an_ rfl tt_) (gives ⟨rfl,rfl,rfl,rfl,rfl,rfl,rfl,rfl,rfl,rfl,rfl,rfl,rfl,rfl,rfl,tt_⟩)))
      ·refine Qa hC [.br false,.n 4,.v .no [] (.i .i64 6),.n 2] rfl ⟨⟨tt_,hc31⟩,rfl⟩ ?_
       refine AK.met (AK.rnd ?_)
       obtain⟨x32,hx32,h⟩:=Qb h
       refine Qa hC [.n 2,.v .no [] (.b true),.n 10,.o (.any (.loc 200000 0 12) none),.n 1,.kill 4,.n 2,.sayO 4 (.var [.clo (.func 170) [] [.loc 200009 0 0,.loc 200010 0 0],.i .i64 v12]),.n 6,.cm (.clo) [(200000,200009),(200001,200002),(200002,200001),(200003,200005),(200004,200010),(200005,200008)] [(200009,200000),(200002,200001),(200001,200002),(200005,200003),(200010,200004),(200008,200005)] [] [.d,.d] [(200000,.var [.clo (.func 129) [] [.loc 200001 0 0,.loc 200002 0 0,.loc 200003 0 0]]),(200001,.var (Qd v3)),(200002,.var (Qi v1)),(200003,.var (Qe v6)),(200004,.var [.loc 200005 0 0]),(200005,.var (Qe x32.2))] (.b x32.1),.n 3] rfl ⟨⟨⟨⟨tt_,rfl⟩,(fun σ h1 h2 _=>Stp.idxV rfl rfl (bleN hC.n rfl) (h1 _ _ rfl) (h1 _ _ rfl) (Qp.es rfl) (h2 _ _ rfl) (by decide))⟩,rfl⟩,(Qmz _ _ _ _ hx32)⟩ ?_
       rcases bifE h with⟨hc33,h⟩|⟨hc33,h⟩
       ·refine Qa hC [.br true,.n 13,.keep [2] [200000,200001,200002,200003,200004,200005,200006,200007,200008,200009,200010,200011,200012,200013,200014]] rfl ⟨tt_,hc33⟩ ?_
        cases h
        exact AK.done (ex_ [_] (an_ (an_ rfl tt_) (gives ⟨rfl,rfl,rfl,rfl,rfl,rfl,rfl,rfl,rfl,rfl,rfl,rfl,rfl,rfl,rfl,tt_⟩)))
       ·refine Qa hC [.br false,.n 4,.v .no [] (.i .i64 7),.n 2] rfl ⟨⟨tt_,hc33⟩,rfl⟩ ?_
        refine AK.met (AK.rnd ?_)
        obtain⟨x34,hx34,h⟩:=Qb h
        refine Qa hC [.n 2,.v .no [] (.b true),.n 10,.o (.any (.loc 200000 0 14) none),.n 1,.kill 4,.n 2,.sayO 4 (.var [.clo (.func 170) [] [.loc 200011 0 0,.loc 200012 0 0],.i .i64 v13]),.n 6,.cm (.clo) [(200000,200011),(200001,200002),(200002,200001),(200003,200005),(200004,200012),(200005,200008)] [(200011,200000),(200002,200001),(200001,200002),(200005,200003),(200012,200004),(200008,200005)] [] [.d,.d] [(200000,.var [.clo (.func 131) [] [.loc 200001 0 0,.loc 200002 0 0,.loc 200003 0 0]]),(200001,.var (Qd v3)),(200002,.var (Qi v1)),(200003,.var (Qe v6)),(200004,.var [.loc 200005 0 0]),(200005,.var (Qe x34.2))] (.b x34.1),.n 3] rfl ⟨⟨⟨⟨tt_,rfl⟩,(fun σ h1 h2 _=>Stp.idxV rfl rfl (bleN hC.n rfl) (h1 _ _ rfl) (h1 _ _ rfl) (Qp.es rfl) (h2 _ _ rfl) (by decide))⟩,rfl⟩,(QmA _ _ _ _ hx34)⟩ ?_
        rcases bifE h with⟨hc35,h⟩|⟨hc35,h⟩
        ·refine Qa hC [.br true,.n 13,.keep [2] [200000,200001,200002,200003,200004,200005,200006,200007,200008,200009,200010,200011,200012,200013,200014]] rfl ⟨tt_,hc35⟩ ?_
         cases h
         exact AK.done (ex_ [_] (an_ (an_ rfl tt_) (gives ⟨rfl,rfl,rfl,rfl,rfl,rfl,rfl,rfl,rfl,rfl,rfl,rfl,rfl,rfl,rfl,tt_⟩)))
        ·refine Qa hC [.br false,.n 4,.v .no [] (.i .i64 8),.n 2] rfl ⟨⟨tt_,hc35⟩,rfl⟩ ?_
         refine AK.met (AK.rnd ?_)
         obtain⟨x36,hx36,h⟩:=Qb h
         refine Qa hC [.n 2,.v .no [] (.b true),.n 10,.o (.any (.loc 200000 0 16) none),.n 1,.kill 4,.n 2,.sayO 4 (.var [.clo (.func 170) [] [.loc 200013 0 0,.loc 200014 0 0],.i .i64 v14]),.n 6,.cm (.clo) [(200000,200013),(200001,200002),(200002,200001),(200003,200014),(200004,200008)] [(200013,200000),(200002,200001),(200001,200002),(200014,200003),(200008,200004)] [] [.d,.d] [(200000,.var [.clo (.func 132) [] [.loc 200001 0 0,.loc 200002 0 0]]),(200001,.var (Qd v3)),(200002,.var (Qi v1)),(200003,.var [.loc 200004 0 0]),(200004,.var (Qe x36.2))] (.b x36.1),.n 3] rfl ⟨⟨⟨⟨tt_,rfl⟩,(fun σ h1 h2 _=>Stp.idxV rfl rfl (bleN hC.n rfl) (h1 _ _ rfl) (h1 _ _ rfl) (Qp.es rfl) (h2 _ _ rfl) (by decide))⟩,rfl⟩,(QmB _ _ _ hx36)⟩ ?_
         rcases bifE h with⟨hc37,h⟩|⟨hc37,h⟩
         ·refine Qa hC [.br true,.n 13,.keep [2] [200000,200001,200002,200003,200004,200005,200006,200007,200008,200009,200010,200011,200012,200013,200014]] rfl ⟨tt_,hc37⟩ ?_
          cases h
          exact AK.done (ex_ [_] (an_ (an_ rfl tt_) (gives ⟨rfl,rfl,rfl,rfl,rfl,rfl,rfl,rfl,rfl,rfl,rfl,rfl,rfl,rfl,rfl,tt_⟩)))
         ·refine Qa hC [.br false,.n 4,.v .no [] (.i .i64 9),.n 2] rfl ⟨⟨tt_,hc37⟩,rfl⟩ ?_
          refine AK.met (AK.rnd ?_)
          obtain⟨x38,hx38,h⟩:=Qb h
          refine Qa hC [.n 2,.v .no [] (.b true),.n 10,.o (.any (.loc 200000 0 18) none),.n 1,.kill 4,.n 2,.sayO 4 (.var [.clo (.func 134) [] [.loc 200001 0 0],.i .i64 v15]),.n 6,.cm (.clo) [(200000,200001)] [(200001,200000)] [] [.d] [(200000,.var (Qi v1))] (.b x38),.n 3] rfl ⟨⟨⟨⟨tt_,rfl⟩,(fun σ h1 h2 _=>Stp.idxV rfl rfl (bleN hC.n rfl) (h1 _ _ rfl) (h1 _ _ rfl) (Qp.es rfl) (h2 _ _ rfl) (by decide))⟩,rfl⟩,(Qof _ hx38)⟩ ?_
          rcases bifE h with⟨hc39,h⟩|⟨hc39,h⟩
          ·refine Qa hC [.br true,.n 13,.keep [2] [200000,200001,200002,200003,200004,200005,200006,200007,200008,200009,200010,200011,200012,200013,200014]] rfl ⟨tt_,hc39⟩ ?_
           cases h
           exact AK.done (ex_ [_] (an_ (an_ rfl tt_) (gives ⟨rfl,rfl,rfl,rfl,rfl,rfl,rfl,rfl,rfl,rfl,rfl,rfl,rfl,rfl,rfl,tt_⟩)))
          ·refine Qa hC [.br false,.n 4,.v .no [] (.i .i64 10),.n 2] rfl ⟨⟨tt_,hc39⟩,rfl⟩ ?_
           refine AK.met (AK.rnd ?_)
           refine Qa hC [.n 2,.v .no [] (.b false),.n 15,.keep [2] [200000,200001,200002,200003,200004,200005,200006,200007,200008,200009,200010,200011,200012,200013,200014]] rfl ⟨tt_,rfl⟩ ?_
           cases h
           exact AK.done (ex_ [_] (an_ (an_ rfl tt_) (gives ⟨rfl,rfl,rfl,rfl,rfl,rfl,rfl,rfl,rfl,rfl,rfl,rfl,rfl,rfl,rfl,tt_⟩)))
def QbH (n1:TNet)(k2:Int):Option Int:=
 (Qbo n1.Tasks k2).bind fun x5=>
 bif (!x5)then
 some 3
 else
 (QdI n1).bind fun x7=>
 bif (x7.2 != 0)then
 some x7.2
 else
 (idx n1.Tasks k2).bind fun e9=>
 (idx n1.Tasks k2).bind fun e10=>
 (Qg0 0 n1 e9).bind fun x11=>
 (QeM 0 n1 e9 (e10.Vars.length:Int)).bind fun x12=>
 (QeN 0 n1 e9 (e10.Vars.length:Int)).bind fun x13=>
 (QeO 0 n1 e9).bind fun x14=>
 (Qde e9 1 n1 k2 5 (e10.Vars.length:Int) 2 0 (-1) 2 1 (-1) (-1) (-1) 11).bind fun x15=>
 bif (x15.1==(-1))then
 some x15.2
 else
 some x15.1
theorem Qqg (n1:TNet)(k2:Int){r:Int}(h:QbH n1 k2=some r):Qc Tryz.prog 68 [.agg (Qd n1),.i .i64 k2] [] (Gives (.i .i64 r) []):=by
 refine Qc.walk 68 Tryz.func68 rfl Tryz.ntmps68 rfl fun C hC=>?_
 unfold QbH at h
 obtain⟨x5,hx5,h⟩:=Qb h
 refine Qa hC [.n 13,.o (.c false [.d,.d] (.b x5)),.n 3] rfl ⟨tt_,(QhA _ _ hx5)⟩ ?_
 rcases bifE h with⟨hc6,h⟩|⟨hc6,h⟩
 ·refine Qa hC [.br true,.n 7,.keep [4] []] rfl ⟨tt_,hc6⟩ ?_
  cases h
  exact AK.done (ex_ [_] (an_ (an_ rfl tt_) (gives tt_)))
 ·obtain⟨x7,hx7,h⟩:=Qb h
  refine Qa hC [.br false,.n 5,.v .no [] (.agg (Qd n1)),.o (.c false [.d] (.tup [.i .i64 x7.1,.i .i64 x7.2])),.n 13] rfl ⟨⟨⟨tt_,hc6⟩,rfl⟩,(Qkw _ hx7)⟩ ?_
  rcases bifE h with⟨hc8,h⟩|⟨hc8,h⟩
  ·refine Qa hC [.br true,.n 8,.keep [4] []] rfl ⟨tt_,hc8⟩ ?_
   cases h
   exact AK.done (ex_ [_] (an_ (an_ rfl tt_) (gives tt_)))
  ·obtain⟨e9,he9,h⟩:=Qb h
   obtain⟨e10,he10,h⟩:=Qb h
   refine Qa hC [.br false,.n 3,.keep [2,3] [2,3]] rfl ⟨tt_,hc8⟩ ?_
   refine AK.draw2 Qp hC mixed [.a .no none false,.a .no none false,.a .no none false,.a (.row (Qi e9)) none false,.a .no (some ([],.agg (Qi e9))) false,.a .no none true,.a .no none true,.a .no none true,.a (.row (Qi e10)) none true,.a .no none true,.a .no none true,.a (.ln e10.Vars.length) none true,.a .no none false,.a .no none false,.m .s,.m .s] [2,3] [2,3] [2,3,7,8] [2,3,7,8] rfl rfl rfl ⟨⟨⟨⟨tt_,(idxM he9)⟩,rfl⟩,(idxM he10)⟩,Qg⟩ rfl (by kernel_rfl) rfl rfl rfl ?_
   obtain⟨x11,hx11,h⟩:=Qb h
   obtain⟨x12,hx12,h⟩:=Qb h
   obtain⟨x13,hx13,h⟩:=Qb h
   obtain⟨x14,hx14,h⟩:=Qb h
   obtain⟨x15,hx15,h⟩:=Qb h
   refine Qa hC [.sayO 7 (.var (Qi e9)),.sayO 8 (.var (Qe (e10.Vars.length:Int))),.n 6,.sayO 9 (.var [.clo (.func 118) [] [.loc 7 0 0]]),.n 10,.v .no [] (.agg [.clo (.func 119) [] [.loc 7 0 0],.i .i64 1]),.n 1,.v .no [] (.agg [.clo (.func 120) [] [.loc 2 0 0,.loc 3 0 0,.loc 9 0 0],.i .i64 5]),.n 1,.v .no [] (.agg [.clo (.func 122) [] [.loc 8 0 0,.loc 7 0 0],.i .i64 2]),.n 1,.cm (.fn) [(200000,10),(200001,2),(200002,7)] [(45,2),(50000,3),(10,200000),(2,200001),(7,200002)] [] [.d,.d] [(2,.var [.loc 200000 0 0]),(3,.var [.clo (.func 124) [] [.loc 200001 0 0,.loc 200002 0 0]]),(200000,.var (Qe 0)),(200001,.var (Qd n1)),(200002,.var (Qi e9))] (.clo (.func 170) [] [.loc 3 0 0,.loc 2 0 0]),.v .no [] (.agg [.clo (.func 170) [] [.loc 50000 0 0,.loc 45 0 0],.i .i64 (-1)]),.n 1,.v .no [] (.agg [.clo (.func 126) [] [.loc 2 0 0,.loc 3 0 0],.i .i64 2]),.n 1,.v .no [] (.agg [.clo (.func 127) [] [.loc 7 0 0,.loc 8 0 0],.i .i64 1]),.n 1,.cm (.fn) [(200000,10),(200001,2),(200002,7),(200003,8)] [(52,2),(50001,3),(10,200000),(2,200001),(7,200002),(8,200003)] [] [.d,.d] [(2,.var [.loc 200000 0 0]),(3,.var [.clo (.func 129) [] [.loc 200001 0 0,.loc 200002 0 0,.loc 200003 0 0]]),(200000,.var (Qe 0)),(200001,.var (Qd n1)),(200002,.var (Qi e9)),(200003,.var (Qe (e10.Vars.length:Int)))] (.clo (.func 170) [] [.loc 3 0 0,.loc 2 0 0]),.v .no [] (.agg [.clo (.func 170) [] [.loc 50001 0 0,.loc 52 0 0],.i .i64 (-1)]),.n 1,.cm (.fn) [(200000,10),(200001,2),(200002,7),(200003,8)] [(55,2),(50002,3),(10,200000),(2,200001),(7,200002),(8,200003)] [] [.d,.d] [(2,.var [.loc 200000 0 0]),(3,.var [.clo (.func 131) [] [.loc 200001 0 0,.loc 200002 0 0,.loc 200003 0 0]]),(200000,.var (Qe 0)),(200001,.var (Qd n1)),(200002,.var (Qi e9)),(200003,.var (Qe (e10.Vars.length:Int)))] (.clo (.func 170) [] [.loc 3 0 0,.loc 2 0 0]),.v .no [] (.agg [.clo (.func 170) [] [.loc 50002 0 0,.loc 55 0 0],.i .i64 (-1)]),.n 1,.cm (.fn) [(200000,10),(200001,2),(200002,7)] [(58,2),(50003,3),(10,200000),(2,200001),(7,200002)] [] [.d,.d] [(2,.var [.loc 200000 0 0]),(3,.var [.clo (.func 132) [] [.loc 200001 0 0,.loc 200002 0 0]]),(200000,.var (Qe 0)),(200001,.var (Qd n1)),(200002,.var (Qi e9))] (.clo (.func 170) [] [.loc 3 0 0,.loc 2 0 0]),.v .no [] (.agg [.clo (.func 170) [] [.loc 50003 0 0,.loc 58 0 0],.i .i64 (-1)]),.n 1,.v .no [] (.agg [.clo (.func 134) [] [.loc 7 0 0],.i .i64 11]),.o (.any (.own 62 10) (some (.var [.clo (.func 119) [] [.loc 7 0 0],.i .i64 1,.clo (.func 120) [] [.loc 2 0 0,.loc 3 0 0,.loc 9 0 0],.i .i64 5,.clo (.func 122) [] [.loc 8 0 0,.loc 7 0 0],.i .i64 2,.clo (.func 170) [] [.loc 50000 0 0,.loc 45 0 0],.i .i64 (-1),.clo (.func 126) [] [.loc 2 0 0,.loc 3 0 0],.i .i64 2,.clo (.func 127) [] [.loc 7 0 0,.loc 8 0 0],.i .i64 1,.clo (.func 170) [] [.loc 50001 0 0,.loc 52 0 0],.i .i64 (-1),.clo (.func 170) [] [.loc 50002 0 0,.loc 55 0 0],.i .i64 (-1),.clo (.func 170) [] [.loc 50003 0 0,.loc 58 0 0],.i .i64 (-1),.clo (.func 134) [] [.loc 7 0 0],.i .i64 11]))),.cm (.fn) [(200000,62),(200001,7),(200002,2),(200003,3),(200004,9),(200005,8),(200006,50000),(200007,45),(200008,10),(200009,50001),(200010,52),(200011,50002),(200012,55),(200013,50003),(200014,58)] [(62,200000),(7,200001),(2,200002),(3,200003),(9,200004),(8,200005),(50000,200006),(45,200007),(10,200008),(50001,200009),(52,200010),(50002,200011),(55,200012),(50003,200013),(58,200014)] [] [.d] [(200000,.var [.clo (.func 119) [] [.loc 200001 0 0],.i .i64 1,.clo (.func 120) [] [.loc 200002 0 0,.loc 200003 0 0,.loc 200004 0 0],.i .i64 5,.clo (.func 122) [] [.loc 200005 0 0,.loc 200001 0 0],.i .i64 2,.clo (.func 170) [] [.loc 200006 0 0,.loc 200007 0 0],.i .i64 (-1),.clo (.func 126) [] [.loc 200002 0 0,.loc 200003 0 0],.i .i64 2,.clo (.func 127) [] [.loc 200001 0 0,.loc 200005 0 0],.i .i64 1,.clo (.func 170) [] [.loc 200009 0 0,.loc 200010 0 0],.i .i64 (-1),.clo (.func 170) [] [.loc 200011 0 0,.loc 200012 0 0],.i .i64 (-1),.clo (.func 170) [] [.loc 200013 0 0,.loc 200014 0 0],.i .i64 (-1),.clo (.func 134) [] [.loc 200001 0 0],.i .i64 11]),(200001,.var (Qi e9)),(200002,.var (Qd n1)),(200003,.var (Qe k2)),(200004,.var [.clo (.func 118) [] [.loc 200001 0 0]]),(200005,.var (Qe (e10.Vars.length:Int))),(200006,.var [.clo (.func 124) [] [.loc 200002 0 0,.loc 200001 0 0]]),(200007,.var [.loc 200008 0 0]),(200008,.var (Qe x15.2)),(200009,.var [.clo (.func 129) [] [.loc 200002 0 0,.loc 200001 0 0,.loc 200005 0 0]]),(200010,.var [.loc 200008 0 0]),(200011,.var [.clo (.func 131) [] [.loc 200002 0 0,.loc 200001 0 0,.loc 200005 0 0]]),(200012,.var [.loc 200008 0 0]),(200013,.var [.clo (.func 132) [] [.loc 200002 0 0,.loc 200001 0 0]]),(200014,.var [.loc 200008 0 0])] (.i .i64 x15.1),.n 10] rfl ⟨⟨⟨⟨⟨⟨⟨⟨⟨⟨⟨⟨⟨⟨⟨⟨⟨⟨⟨tt_,rfl⟩,rfl⟩,rfl⟩,rfl⟩,rfl⟩,rfl⟩,(Qpz _ _ _ hx11)⟩,rfl⟩,rfl⟩,rfl⟩,(Qnt _ _ _ _ hx12)⟩,rfl⟩,(Qnu _ _ _ _ hx13)⟩,rfl⟩,(Qnv _ _ _ hx14)⟩,rfl⟩,rfl⟩,(fun σ h1 h2 hf=>Stp.buildAny rfl rfl (bleN hC.n rfl) (Qp.es rfl) Qkt rfl (by decide) (by decide) (Qeu h1 rfl) rfl rfl (hf rfl))⟩,(QnC _ _ _ _ _ _ _ _ _ _ _ _ _ _ _ hx15)⟩ ?_
   rcases bifE h with⟨hc16,h⟩|⟨hc16,h⟩
   ·refine Qa hC [.br true,.n 8,.keep [4] []] rfl ⟨tt_,hc16⟩ ?_
    cases h
    exact AK.done (ex_ [_] (an_ (an_ rfl tt_) (gives tt_)))
   ·refine Qa hC [.br false,.n 9,.keep [4] []] rfl ⟨tt_,hc16⟩ ?_
    cases h
    exact AK.done (ex_ [_] (an_ (an_ rfl tt_) (gives tt_)))
def Qfj (k1:Int)(p2:Qr)(v3:TNet):Option Int:=
 (QbH v3 k1).bind fun x5=>
 some x5
theorem QpB (k1:Int)(p2:Qr)(v3:TNet){r:Int}(h:Qfj k1 p2 v3=some r):Qc Tryz.prog 67 [.i .i64 k1,.agg (Qi p2),.loc 200000 0 0] [(200000,.var (Qd v3))] (Gives (.i .i64 r) [(200000,.var (Qd v3))]):=by
 refine Qc.walk 9 Tryz.func67 rfl Tryz.ntmps67 rfl fun C hC=>?_
 unfold Qfj at h
 obtain⟨x5,hx5,h⟩:=Qb h
 refine Qa hC [.n 8,.v .no [] (.agg (Qd v3)),.n 1,.o (.c false [.d,.d] (.i .i64 x5)),.n 4,.keep [5] [200000]] rfl ⟨⟨tt_,rfl⟩,(Qqg _ _ hx5)⟩ ?_
 cases h
 exact AK.done (ex_ [_] (an_ (an_ rfl tt_) (gives ⟨rfl,tt_⟩)))
def Qan (l1:(List Qr))(v2:TNet)(x7:Int):Option (Int⊕((Int×Int)⊕Unit)):=
 bif (decide (x7<(l1.length:Int)))then
 (idx l1 x7).bind fun e12=>
 (Qfj x7 e12 v2).bind fun x13=>
 bif (x13 != 0)then
 some (.inr (.inl (x7,x13)))
 else
 some (.inl (w64 (x7+1)))
 else
 some (.inr (.inr ()))
def QbI (x9:Int)(x10:Int):Option (Int×Int):=
 some (x9,x10)
def QbJ : Option (Int×Int):=
 some (0,0)
def Qa6 (l1:(List Qr))(v2:TNet):Option (Int×Int):=
 (QF (fun st=>Qan l1 v2 st) 0).bind (Sum.elim (fun q=>QbI q.1 q.2) (fun q=>QbJ))
theorem QlE (l1:(List Qr))(v2:TNet){r:(Int×Int)}(h:Qa6 l1 v2=some r):Qc Tryz.prog 66 [.sl 14 (l1.map Qi),.clo (.func 67) [] [.loc 200000 0 0]] [(200000,.var (Qd v2))] (Gives (.tup [.i .i64 r.1,.i .i64 r.2]) [(200000,.var (Qd v2))]):=by
 refine Qc.walk 25 Tryz.func66 rfl Tryz.ntmps66 rfl fun C hC=>?_
 unfold Qa6 at h
 refine Qa hC [.n 10,.o (.ln l1.length),.n 4,.keep [1,9,10,11] [200000]] rfl ⟨tt_,Qg⟩ ?_
 obtain⟨o15,hl15,h⟩:=Qb h
 refine AK.loop (body:=(fun st=>Qan l1 v2 st)) (fun st σ=>σ=⟨[(1,.clo (.func 67) [] [.loc 200000 0 0]),(9,.sl 14 (l1.map Qi)),(10,.i .i64 (l1.length:Int)),(11,.i .i64 st)],[(200000,.var (Qd v2))]⟩) (Sum.elim (fun q e σ=>e=.ret∧σ=⟨[(4,.i .i64 q.1),(5,.i .i64 q.2)],[(200000,.var (Qd v2))]⟩) (fun q e σ=>e=.exit 0∧σ=⟨[],[(200000,.var (Qd v2))]⟩)) hl15 rfl ?_ ?_
 ·rintro x7 o σ rfl h
  replace h:Qan l1 v2 x7=some o:=h
  unfold Qan at h
  refine Qa hC [.n 6] rfl tt_ ?_
  rcases bifE h with⟨hc11,h⟩|⟨hc11,h⟩
  ·obtain⟨e12,he12,h⟩:=Qb h
   obtain⟨x13,hx13,h⟩:=Qb h
   refine Qa hC [.br true,.n 7,.o (.row (Qi e12)),.v .no [] (.agg (Qi e12)),.n 3,.sayO 7 (.var (Qi e12)),.n 6,.v .no [] (.agg (Qi e12)),.cm (.clo) [(200000,200000)] [(200000,200000)] [] [.d,.d,.d] [(200000,.var (Qd v2))] (.i .i64 x13),.n 9] rfl ⟨⟨⟨⟨⟨⟨tt_,hc11⟩,(idxM he12)⟩,rfl⟩,rfl⟩,rfl⟩,(QpB _ _ _ hx13)⟩ ?_
   rcases bifE h with⟨hc14,h⟩|⟨hc14,h⟩
   ·refine Qa hC [.br true,.n 11,.keep [4,5] [200000]] rfl ⟨tt_,hc14⟩ ?_
    cases h
    exact rndR rfl (an_ rfl rfl)
   ·refine Qa hC [.br false,.n 7,.keep [1,9,10,11] [200000]] rfl ⟨tt_,hc14⟩ ?_
    cases h
    exact rndN rfl rfl
  ·refine Qa hC [.br false,.n 2,.keep [] [200000]] rfl ⟨tt_,hc11⟩ ?_
   cases h
   exact rndX rfl (an_ rfl rfl)
 ·rcases o15 with(⟨x9,x10⟩|_)
  ·replace h:QbI x9 x10=some r:=h
   unfold QbI at h
   rintro e σ ⟨rfl,rfl⟩
   refine Qa hC [.n 2,.keep [4,5] [200000]] rfl tt_ ?_
   cases h
   exact AK.done (ex_ [_,_] (an_ (an_ rfl (an_ rfl tt_)) (gives ⟨rfl,tt_⟩)))
  ·replace h:QbJ=some r:=h
   unfold QbJ at h
   rintro e σ ⟨rfl,rfl⟩
   refine Qa hC [.n 9,.keep [4,5] [200000]] rfl tt_ ?_
   cases h
   exact AK.done (ex_ [_,_] (an_ (an_ rfl (an_ rfl tt_)) (gives ⟨rfl,tt_⟩)))
def QfR (n1:TNet):Option (Int×Qdz):=
 (QgX n1 2 3 1).bind fun x6=>
 bif (x6 != 0)then
 some (x6,(Qdz.mk 1 0))
 else
 (QdI n1).bind fun x8=>
 bif (x8.2 != 0)then
 some (x8.2,(Qdz.mk 2 x8.1))
 else
 (Qcc n1.Places n1).bind fun x10=>
 bif (x10.2 != 0)then
 some (x10.2,(Qdz.mk 3 x10.1))
 else
 (Qa6 n1.Tasks n1).bind fun x12=>
 bif (x12.2 != 0)then
 some (x12.2,(Qdz.mk 4 x12.1))
 else
 some (0,(Qdz.mk 0 0))
theorem QqR (n1:TNet){r:(Int×Qdz)}(h:QfR n1=some r):Qc Tryz.prog 32 [.agg (Qd n1)] [] (Gives (.tup [.agg (Qcp r.2),.i .i64 r.1]) []):=by
 refine Qc.walk 58 Tryz.func32 rfl Tryz.ntmps32 rfl fun C hC=>?_
 unfold QfR at h
 obtain⟨x6,hx6,h⟩:=Qb h
 refine Qa hC [.n 10,.v .no [] (.agg [.clo (.func 58) [] [.loc 1 0 0],.i .i64 2]),.n 1,.v .no [] (.agg [.clo (.func 59) [] [.loc 1 0 0],.i .i64 3]),.n 1,.v .no [] (.agg [.clo (.func 61) [] [.loc 1 0 0],.i .i64 1]),.o (.any (.own 17 3) (some (.var [.clo (.func 58) [] [.loc 1 0 0],.i .i64 2,.clo (.func 59) [] [.loc 1 0 0],.i .i64 3,.clo (.func 61) [] [.loc 1 0 0],.i .i64 1]))),.cm (.fn) [(200000,17),(200001,1)] [(17,200000),(1,200001)] [] [.d] [(200000,.var [.clo (.func 58) [] [.loc 200001 0 0],.i .i64 2,.clo (.func 59) [] [.loc 200001 0 0],.i .i64 3,.clo (.func 61) [] [.loc 200001 0 0],.i .i64 1]),(200001,.var (Qd n1))] (.i .i64 x6),.n 10] rfl ⟨⟨⟨⟨⟨tt_,rfl⟩,rfl⟩,rfl⟩,(fun σ h1 h2 hf=>Stp.buildAny rfl rfl (bleN hC.n rfl) (Qp.es rfl) Qkt rfl (by decide) (by decide) (Qeu h1 rfl) rfl rfl (hf rfl))⟩,(Qpv _ _ _ _ hx6)⟩ ?_
 rcases bifE h with⟨hc7,h⟩|⟨hc7,h⟩
 ·refine Qa hC [.br true,.n 2,.v .no [] (.agg (Qcp (Qdz.mk 1 0))),.n 2,.sayO 2 (.var (Qcp (Qdz.mk 1 0))),.n 5,.keep [2,3] [2]] rfl ⟨⟨⟨tt_,hc7⟩,rfl⟩,rfl⟩ ?_
  cases h
  exact AK.done (ex_ [_,_] (an_ (an_ (ex_ _ (ex_ _ (an_ rfl (an_ rfl (Or.inl (an_ (Qp.ag rfl) (an_ (Qp.sz rfl) rfl))))))) (an_ rfl tt_)) (gives tt_)))
 ·obtain⟨x8,hx8,h⟩:=Qb h
  refine Qa hC [.br false,.n 5,.v .no [] (.agg (Qd n1)),.o (.c false [.d] (.tup [.i .i64 x8.1,.i .i64 x8.2])),.n 13] rfl ⟨⟨⟨tt_,hc7⟩,rfl⟩,(Qkw _ hx8)⟩ ?_
  rcases bifE h with⟨hc9,h⟩|⟨hc9,h⟩
  ·refine Qa hC [.br true,.n 3,.v .no [] (.agg (Qcp (Qdz.mk 2 x8.1))),.n 2,.sayO 2 (.var (Qcp (Qdz.mk 2 x8.1))),.n 5,.keep [2,3] [2]] rfl ⟨⟨⟨tt_,hc9⟩,rfl⟩,rfl⟩ ?_
   cases h
   exact AK.done (ex_ [_,_] (an_ (an_ (ex_ _ (ex_ _ (an_ rfl (an_ rfl (Or.inl (an_ (Qp.ag rfl) (an_ (Qp.sz rfl) rfl))))))) (an_ rfl tt_)) (gives tt_)))
  ·obtain⟨x10,hx10,h⟩:=Qb h
   refine Qa hC [.br false,.n 8,.cm (.fn) [(200000,1)] [(1,200000)] [] [.d,.d] [(200000,.var (Qd n1))] (.tup [.i .i64 x10.1,.i .i64 x10.2]),.n 13] rfl ⟨⟨tt_,hc9⟩,(Qk4 _ _ hx10)⟩ ?_
   rcases bifE h with⟨hc11,h⟩|⟨hc11,h⟩
   ·refine Qa hC [.br true,.n 3,.v .no [] (.agg (Qcp (Qdz.mk 3 x10.1))),.n 2,.sayO 2 (.var (Qcp (Qdz.mk 3 x10.1))),.n 5,.keep [2,3] [2]] rfl ⟨⟨⟨tt_,hc11⟩,rfl⟩,rfl⟩ ?_
    cases h
    exact AK.done (ex_ [_,_] (an_ (an_ (ex_ _ (ex_ _ (an_ rfl (an_ rfl (Or.inl (an_ (Qp.ag rfl) (an_ (Qp.sz rfl) rfl))))))) (an_ rfl tt_)) (gives tt_)))
   ·obtain⟨x12,hx12,h⟩:=Qb h
    refine Qa hC [.br false,.n 8,.cm (.fn) [(200000,1)] [(1,200000)] [] [.d,.d] [(200000,.var (Qd n1))] (.tup [.i .i64 x12.1,.i .i64 x12.2]),.n 13] rfl ⟨⟨tt_,hc11⟩,(QlE _ _ hx12)⟩ ?_
    rcases bifE h with⟨hc13,h⟩|⟨hc13,h⟩
    ·refine Qa hC [.br true,.n 3,.v .no [] (.agg (Qcp (Qdz.mk 4 x12.1))),.n 2,.sayO 2 (.var (Qcp (Qdz.mk 4 x12.1))),.n 5,.keep [2,3] [2]] rfl ⟨⟨⟨tt_,hc13⟩,rfl⟩,rfl⟩ ?_
     cases h
     exact AK.done (ex_ [_,_] (an_ (an_ (ex_ _ (ex_ _ (an_ rfl (an_ rfl (Or.inl (an_ (Qp.ag rfl) (an_ (Qp.sz rfl) rfl))))))) (an_ rfl tt_)) (gives tt_)))
    ·refine Qa hC [.br false,.n 4,.v .no [] (.agg (Qcp (Qdz.mk 0 0))),.n 1,.sayO 2 (.var (Qcp (Qdz.mk 0 0))),.n 4,.keep [2,3] [2]] rfl ⟨⟨⟨tt_,hc13⟩,rfl⟩,rfl⟩ ?_
     cases h
     exact AK.done (ex_ [_,_] (an_ (an_ (ex_ _ (ex_ _ (an_ rfl (an_ rfl (Or.inl (an_ (Qp.ag rfl) (an_ (Qp.sz rfl) rfl))))))) (an_ rfl tt_)) (gives tt_)))
def QjS (e9:(List (Int×Int)))(x11:Int):Option Bool:=
 (Qb5 e9).bind fun x14=>
 bif (!x14)then
 some true
 else
 bif (decide (0<(e9.length:Int)))then
 (idx e9 (w64 ((e9.length:Int)-1))).bind fun e17=>
 some (decide (x11≤e17.1))
 else
 some false
def QfF (x6:Int)(x12:Bool):Option (Int⊕(Unit⊕Unit)):=
 bif x12 then
 some (.inr (.inl ()))
 else
 some (.inl (w64 (x6+1)))
def QdK (m2:(List (List (Int×Int))))(n1:TNet)(x6:Int):Option (Int⊕(Unit⊕Unit)):=
 bif (decide (x6<(m2.length:Int)))then
 (idx m2 x6).bind fun e9=>
 (idx n1.Places x6).bind fun e10=>
 (QaX n1.Colours e10.Colour).bind fun x11=>
 (QjS e9 x11).bind (fun x12=>QfF x6 x12)
 else
 some (.inr (.inr ()))
def QjT : Option Bool:=
 some false
def QjU : Option Bool:=
 some true
def QhV (n1:TNet)(m2:(List (List (Int×Int)))):Option Bool:=
 bif ((m2.length:Int) != (n1.Places.length:Int))then
 some false
 else
 (QF (fun st=>QdK m2 n1 st) 0).bind (Sum.elim (fun q=>QjT) (fun q=>QjU))
theorem Qqh (n1:TNet)(m2:(List (List (Int×Int)))){r:Bool}(h:QhV n1 m2=some r):Qc Tryz.prog 27 [.agg (Qd n1),.sl 1 (m2.map Qf)] [] (Gives (.b r) []):=by
 refine Qc.walk 50 Tryz.func27 rfl Tryz.ntmps27 rfl fun C hC=>?_
 unfold QhV at h
 refine Qa hC [.n 10,.o (.ln m2.length),.n 2,.o (.ln n1.Places.length),.n 3] rfl ⟨⟨tt_,Qg⟩,Qg⟩ ?_
 rcases bifE h with⟨hc5,h⟩|⟨hc5,h⟩
 ·refine Qa hC [.br true,.n 7,.keep [4] []] rfl ⟨tt_,hc5⟩ ?_
  cases h
  exact AK.done (ex_ [_] (an_ (an_ rfl tt_) (gives tt_)))
 ·refine Qa hC [.br false,.n 6,.o (.ln m2.length),.n 4,.keep [2,14,15,16] [2]] rfl ⟨⟨tt_,hc5⟩,Qg⟩ ?_
  obtain⟨o19,hl19,h⟩:=Qb h
  refine AK.loop (body:=(fun st=>QdK m2 n1 st)) (fun st σ=>σ=⟨[(2,.loc 2 0 0),(14,.sl 1 (m2.map Qf)),(15,.i .i64 (m2.length:Int)),(16,.i .i64 st)],[(2,.var (Qd n1))]⟩) (Sum.elim (fun q e σ=>e=.ret∧σ=⟨[(4,.b false)],[]⟩) (fun q e σ=>e=.exit 0∧σ=⟨[],[]⟩)) hl19 rfl ?_ ?_
  ·rintro x6 o σ rfl h
   replace h:QdK m2 n1 x6=some o:=h
   unfold QdK at h
   refine Qa hC [.n 6] rfl tt_ ?_
   rcases bifE h with⟨hc8,h⟩|⟨hc8,h⟩
   ·obtain⟨e9,he9,h⟩:=Qb h
    obtain⟨e10,he10,h⟩:=Qb h
    obtain⟨x11,hx11,h⟩:=Qb h
    refine Qa hC [.br true,.n 7,.o (.row (Qf e9)),.n 6,.keep [2,5,6,14,15,16] [2]] rfl ⟨⟨tt_,hc8⟩,(idxM he9)⟩ ?_
    refine AK.draw2 Qp hC mixed [.a .no none false,.a .no none false,.a .no none false,.a .no none false,.a .no none false,.a (.row (Qt e10)) none false,.a .no none false,.a .no none false,.a (.c false [.d,.d] (.i .i64 x11)) none false,.a .no none false] [] [] [2,6,7,14,15,16] [2] rfl rfl rfl ⟨⟨tt_,(idxM he10)⟩,(QgG _ _ hx11)⟩ rfl (by kernel_rfl) rfl rfl rfl ?_
    refine Qa hC [.n 2] rfl tt_ ?_
    obtain⟨x12,hv13,h⟩:=Qb h
    replace h:QfF x6 x12=some o:=h
    refine AK.meetX (fun σ=>σ=⟨[(2,.loc 2 0 0),(14,.sl 1 (m2.map Qf)),(15,.i .i64 (m2.length:Int)),(16,.i .i64 x6),(48,.b x12)],[(2,.var (Qd n1))]⟩) ?_ ?_
    ·replace h:=hv13
     unfold QjS at h
     obtain⟨x14,hx14,h⟩:=Qb h
     refine Qa hC [.n 2,.o (.c false [.d] (.b x14)),.n 2] rfl ⟨tt_,(Qga _ hx14)⟩ ?_
     rcases bifE h with⟨hc15,h⟩|⟨hc15,h⟩
     ·refine Qa hC [.say 33 (.b true),.n 16,.keep [2,14,15,16,48] [2]] rfl ⟨tt_,(congrArg V.b hc15)⟩ ?_
      cases h
      exact AK.met rfl
     ·refine Qa hC [.say 33 (.b false),.n 1,.o (.ln e9.length),.n 2] rfl ⟨⟨tt_,(congrArg V.b hc15)⟩,Qg⟩ ?_
      rcases bifE h with⟨hc16,h⟩|⟨hc16,h⟩
      ·obtain⟨e17,he17,h⟩:=Qb h
       refine Qa hC [.say 37 (.b true),.n 2,.o (.ln e9.length),.n 1,.o (.row (Qs e17)),.n 7,.keep [2,14,15,16,48] [2]] rfl ⟨⟨⟨tt_,(congrArg V.b hc16)⟩,Qg⟩,(idxM he17)⟩ ?_
       cases h
       exact AK.met rfl
      ·refine Qa hC [.say 37 (.b false),.n 12,.keep [2,14,15,16,48] [2]] rfl ⟨tt_,(congrArg V.b hc16)⟩ ?_
       cases h
       exact AK.met rfl
    ·rintro σ rfl
     replace h:QfF x6 x12=some o:=h
     unfold QfF at h
     refine Qa hC [.n 1] rfl tt_ ?_
     rcases bifE h with⟨hc18,h⟩|⟨hc18,h⟩
     ·refine Qa hC [.br true,.n 8,.keep [4] []] rfl ⟨tt_,hc18⟩ ?_
      cases h
      exact rndR rfl (an_ rfl rfl)
     ·refine Qa hC [.br false,.n 7,.keep [2,14,15,16] [2]] rfl ⟨tt_,hc18⟩ ?_
      cases h
      exact rndN rfl rfl
   ·refine Qa hC [.br false,.n 2,.keep [] []] rfl ⟨tt_,hc8⟩ ?_
    cases h
    exact rndX rfl (an_ rfl rfl)
  ·rcases o19 with(_ | _)
   ·replace h:QjT=some r:=h
    unfold QjT at h
    rintro e σ ⟨rfl,rfl⟩
    refine Qa hC [.n 2,.keep [4] []] rfl tt_ ?_
    cases h
    exact AK.done (ex_ [_] (an_ (an_ rfl tt_) (gives tt_)))
   ·replace h:QjU=some r:=h
    unfold QjU at h
    rintro e σ ⟨rfl,rfl⟩
    refine Qa hC [.n 8,.keep [4] []] rfl tt_ ?_
    cases h
    exact AK.done (ex_ [_] (an_ (an_ rfl tt_) (gives tt_)))
def QjV (x11:(Int×Qdz))(n1:TNet)(m2:(List (List (Int×Int)))):Option Bool:=
 bif (x11.1 != 0)then
 some true
 else
 (QhV n1 m2).bind fun x15=>
 some (!x15)
def QdL (n1:TNet)(work17:Int)(k18:Int):Option ((Int×Int)⊕Int):=
 bif (decide (k18<(n1.Tasks.length:Int)))then
 (idx n1.Tasks k18).bind fun e23=>
 (Qfi n1 k18).bind fun x24=>
 some (.inl ((w64 (work17+(w64 (x24*(w64 (1+(w64 ((e23.Ins.length:Int)*(e23.Outs.length:Int))))))))),(w64 (k18+1))))
 else
 some (.inr work17)
def QjW (work21:Int):Option Bool:=
 some (decide (work21≤600))
def QfG (n1:TNet)(x12:Bool):Option Bool:=
 bif x12 then
 some false
 else
 (QF (fun st=>QdL n1 st.1 st.2) (0,0)).bind (fun q=>QjW q)
def Qgs (n1:TNet)(m2:(List (List (Int×Int)))):Option Bool:=
 (QiD n1).bind fun x5=>
 (QiE m2).bind fun x6=>
 bif ((!x5)||((!x6)||(decide (12<(n1.Tasks.length:Int)))))then
 some false
 else
 (QfR n1).bind fun x11=>
 (QjV x11 n1 m2).bind (fun x12=>QfG n1 x12)
theorem Ql5 (n1:TNet)(m2:(List (List (Int×Int)))){r:Bool}(h:Qgs n1 m2=some r):Qc Tryz.prog 9 [.agg (Qd n1),.sl 1 (m2.map Qf)] [] (Gives (.b r) []):=by
 refine Qc.walk 69 Tryz.func9 rfl Tryz.ntmps9 rfl fun C hC=>?_
 unfold Qgs at h
 obtain⟨x5,hx5,h⟩:=Qb h
 obtain⟨x6,hx6,h⟩:=Qb h
 refine Qa hC [.n 8,.v .no [] (.agg (Qd n1)),.o (.c false [.d] (.b x5)),.n 6,.o (.c false [.d] (.b x6)),.n 5] rfl ⟨⟨⟨tt_,rfl⟩,(QqP _ hx5)⟩,(QqQ _ hx6)⟩ ?_
 refine AK.meetX (fun σ=>σ=⟨[(1,.sl 1 (m2.map Qf)),(2,.loc 2 0 0),(27,.b ((!x5)||((!x6)||(decide (12<(n1.Tasks.length:Int))))))],[(2,.var (Qd n1))]⟩) ?_ ?_
 ·refine Qa hC [.n 4] rfl tt_ ?_
  rcases QJ (!x5)with hc8 | hc8
  ·refine Qa hC [.say 18 (.b true),.n 10,.say 27 (.b ((!x5)||((!x6)||(decide (12<(n1.Tasks.length:Int)))))),.keep [1,2,27] [2]] rfl ⟨⟨tt_,(congrArg V.b hc8)⟩,(congrArg V.b (orT hc8 rfl))⟩ ?_
   exact AK.met rfl
  ·refine Qa hC [.say 18 (.b false),.n 4] rfl ⟨tt_,(congrArg V.b hc8)⟩ ?_
   rcases QJ (!x6)with hc9 | hc9
   ·refine Qa hC [.say 22 (.b true),.n 6,.say 27 (.b ((!x5)||((!x6)||(decide (12<(n1.Tasks.length:Int)))))),.keep [1,2,27] [2]] rfl ⟨⟨tt_,(congrArg V.b hc9)⟩,(congrArg V.b (orF hc8 (orT hc9 rfl)))⟩ ?_
    exact AK.met rfl
   ·refine Qa hC [.say 22 (.b false),.n 2,.o (.ln n1.Tasks.length),.n 3,.say 27 (.b ((!x5)||((!x6)||(decide (12<(n1.Tasks.length:Int)))))),.keep [1,2,27] [2]] rfl ⟨⟨⟨tt_,(congrArg V.b hc9)⟩,Qg⟩,(congrArg V.b (orF hc8 (orF hc9 rfl)))⟩ ?_
    exact AK.met rfl
 ·rintro σ rfl
  refine Qa hC [.n 1] rfl tt_ ?_
  rcases bifE h with⟨hc10,h⟩|⟨hc10,h⟩
  ·refine Qa hC [.br true,.n 7,.keep [4] []] rfl ⟨tt_,hc10⟩ ?_
   cases h
   exact AK.done (ex_ [_] (an_ (an_ rfl tt_) (gives tt_)))
  ·obtain⟨x11,hx11,h⟩:=Qb h
   refine Qa hC [.br false,.n 4,.v .no [] (.agg (Qd n1)),.o (.c false [.d] (.tup [.agg (Qcp x11.2),.i .i64 x11.1])),.n 5,.sayO 7 (.var (Qcp x11.2)),.n 5] rfl ⟨⟨⟨⟨tt_,hc10⟩,rfl⟩,(QqR _ hx11)⟩,rfl⟩ ?_
   obtain⟨x12,hv13,h⟩:=Qb h
   replace h:QfG n1 x12=some r:=h
   refine AK.meetX (fun σ=>σ=⟨[(2,.loc 2 0 0),(40,.b x12)],[(2,.var (Qd n1))]⟩) ?_ ?_
   ·replace h:=hv13
    unfold QjV at h
    refine Qa hC [.n 4] rfl tt_ ?_
    rcases bifE h with⟨hc14,h⟩|⟨hc14,h⟩
    ·refine Qa hC [.say 35 (.b true),.n 6,.keep [2,40] [2]] rfl ⟨tt_,(congrArg V.b hc14)⟩ ?_
     cases h
     exact AK.met rfl
    ·obtain⟨x15,hx15,h⟩:=Qb h
     refine Qa hC [.say 35 (.b false),.v .no [] (.agg (Qd n1)),.n 1,.o (.c false [.d,.d] (.b x15)),.n 3,.keep [2,40] [2]] rfl ⟨⟨⟨tt_,(congrArg V.b hc14)⟩,rfl⟩,(Qqh _ _ hx15)⟩ ?_
     cases h
     exact AK.met rfl
   ·rintro σ rfl
    replace h:QfG n1 x12=some r:=h
    unfold QfG at h
    refine Qa hC [.n 1] rfl tt_ ?_
    rcases bifE h with⟨hc16,h⟩|⟨hc16,h⟩
    ·refine Qa hC [.br true,.n 7,.keep [4] []] rfl ⟨tt_,hc16⟩ ?_
     cases h
     exact AK.done (ex_ [_] (an_ (an_ rfl tt_) (gives tt_)))
    ·refine Qa hC [.br false,.n 14,.keep [2,9,10] [2]] rfl ⟨tt_,hc16⟩ ?_
     obtain⟨work21,hl25,h⟩:=Qb h
     refine AK.loop (body:=(fun st=>QdL n1 st.1 st.2)) (fun st σ=>σ=⟨[(2,.loc 2 0 0),(9,.i .i64 st.1),(10,.i .i64 st.2)],[(2,.var (Qd n1))]⟩) (fun q e σ=>e=.exit 0∧σ=⟨[(9,.i .i64 q)],[]⟩) hl25 rfl ?_ ?_
     ·rintro ⟨work17,k18⟩ o σ rfl h
      replace h:QdL n1 work17 k18=some o:=h
      unfold QdL at h
      refine Qa hC [.n 6,.o (.ln n1.Tasks.length),.n 3] rfl ⟨tt_,Qg⟩ ?_
      rcases bifE h with⟨hc22,h⟩|⟨hc22,h⟩
      ·obtain⟨e23,he23,h⟩:=Qb h
       obtain⟨x24,hx24,h⟩:=Qb h
       refine Qa hC [.br true,.n 9,.o (.row (Qi e23)),.v .no [] (.agg (Qi e23)),.n 2,.sayO 11 (.var (Qi e23)),.n 2,.keep [2,9,10,11] [2,11]] rfl ⟨⟨⟨⟨tt_,hc22⟩,(idxM he23)⟩,rfl⟩,rfl⟩ ?_
       refine AK.draw2 Qp hC mixed [.a .no none false,.a .no (some ([],.agg (Qd n1))) false,.a .no none false,.a (.c false [.d,.d] (.i .i64 x24)) none false,.a .no none false,.a .no none false,.a (.ln e23.Ins.length) none false,.a .no none false,.a .no none false,.a (.ln e23.Outs.length) none false,.a .no none false,.a .no none false,.a .no none false,.a .no none false,.m .s] [] [] [2,9,10] [2] rfl rfl rfl ⟨⟨⟨⟨tt_,rfl⟩,(QlD _ _ hx24)⟩,Qg⟩,Qg⟩ rfl (by kernel_rfl) rfl rfl rfl ?_
       refine Qa hC [.n 7,.keep [2,9,10] [2]] rfl tt_ ?_
       cases h
       exact rndN rfl rfl
      ·refine Qa hC [.br false,.n 2,.keep [9] []] rfl ⟨tt_,hc22⟩ ?_
       cases h
       exact rndX rfl (an_ rfl rfl)
     ·replace h:QjW work21=some r:=h
      unfold QjW at h
      rintro e σ ⟨rfl,rfl⟩
      refine Qa hC [.n 10,.keep [4] []] rfl tt_ ?_
      cases h
      exact AK.done (ex_ [_] (an_ (an_ rfl tt_) (gives tt_)))
def Qe6 (x16:((List (List (Int×Int)))×Int))(n1:TNet)(o3:Qk):Option Bool:=
 bif (x16.2 != 0)then
 some true
 else
 (idx n1.Tasks o3.Task).bind fun e20=>
 bif (decide (0<(e20.Cancel.length:Int)))then
 some true
 else
 (idx n1.Tasks o3.Task).bind fun e22=>
 some (e22.Join==3)
def Qbr (m2:(List (List (Int×Int))))(more4:(List (List (Int×Int))))(x16:((List (List (Int×Int)))×Int))(i25:Int)(l26:(List (List (Int×Int))))(l27:(List (List (Int×Int)))):Option ((Int×(List (List (Int×Int)))×(List (List (Int×Int))))⊕(Unit⊕((List (List (Int×Int)))×(List (List (Int×Int)))))):=
 bif (decide (i25<(m2.length:Int)))then
 (idx m2 i25).bind fun e34=>
 (idx more4 i25).bind fun e35=>
 (QM e34 e35).bind fun x36=>
 (idx x16.1 i25).bind fun e37=>
 (idx more4 i25).bind fun e38=>
 (QM e37 e38).bind fun x39=>
 bif ((x36.2 != 0)||(x39.2 != 0))then
 some (.inr (.inl ()))
 else
 (chk (decide (l26.length+([x36.1]:List (List (Int×Int))).length≤4294967296))).bind fun _=>
 (chk (decide (l27.length+([x39.1]:List (List (Int×Int))).length≤4294967296))).bind fun _=>
 some (.inl ((w64 (i25+1)),(l26++([x36.1]:List (List (Int×Int)))),(l27++([x39.1]:List (List (Int×Int))))))
 else
 some (.inr (.inr (l26,l27)))
def Qhm (x7:Bool):Option Bool:=
 some x7
def Qhn (x7:Bool)(x46:((List (List (Int×Int)))×Int))(l32:(List (List (Int×Int)))):Option Bool:=
 bif x7 then
 bif (x46.2==0)then
 (Qha x46.1 l32).bind fun x51=>
 some x51
 else
 some false
 else
 some false
def Qe7 (x47:Bool):Option Bool:=
 some x47
def Qc6 (n1:TNet)(o3:Qk)(x7:Bool)(l31:(List (List (Int×Int))))(l32:(List (List (Int×Int)))):Option Bool:=
 (Qbb n1 l31 o3).bind fun x46=>
 (Qhn x7 x46 l32).bind (fun x47=>Qe7 x47)
def Qb2 (x7:Bool)(m2:(List (List (Int×Int))))(more4:(List (List (Int×Int))))(x16:((List (List (Int×Int)))×Int))(n1:TNet)(o3:Qk)(x17:Bool):Option Bool:=
 bif x17 then
 some x7
 else
 (QF (fun st=>Qbr m2 more4 x16 st.1 st.2.1 st.2.2) (0,([]:List (List (Int×Int))),([]:List (List (Int×Int))))).bind (Sum.elim (fun q=>Qhm x7) (fun q=>Qc6 n1 o3 x7 q.1 q.2))
def Qdf (n1:TNet)(m2:(List (List (Int×Int))))(o3:Qk)(more4:(List (List (Int×Int)))):Option Bool:=
 (QiP).bind fun x7=>
 (Qgs n1 m2).bind fun x8=>
 (Qgs n1 more4).bind fun x9=>
 bif ((!x8)||((!x9)||((decide (20<(o3.Vars.length:Int)))||((decide (20<(o3.Ins.length:Int)))||(decide (20<(o3.Outs.length:Int)))))))then
 some x7
 else
 (Qbb n1 m2 o3).bind fun x16=>
 (Qe6 x16 n1 o3).bind (fun x17=>Qb2 x7 m2 more4 x16 n1 o3 x17)
theorem QnD (n1:TNet)(m2:(List (List (Int×Int))))(o3:Qk)(more4:(List (List (Int×Int)))){r:Bool}(h:Qdf n1 m2 o3 more4=some r):Qc Tryz.prog 5 [.agg (Qd n1),.sl 1 (m2.map Qf),.agg (Qj o3),.sl 1 (more4.map Qf)] [] (Gives (.b r) []):=by
 refine Qc.walk 148 Tryz.func5 rfl Tryz.ntmps5 rfl fun C hC=>?_
 unfold Qdf at h
 obtain⟨x7,hx7,h⟩:=Qb h
 obtain⟨x8,hx8,h⟩:=Qb h
 obtain⟨x9,hx9,h⟩:=Qb h
 refine Qa hC [.n 9,.o (.c false [] (.b x7)),.n 5,.v .no [] (.agg (Qd n1)),.n 1,.o (.c false [.d,.d] (.b x8)),.n 5,.v .no [] (.agg (Qd n1)),.n 1,.o (.c false [.d,.d] (.b x9)),.n 5] rfl ⟨⟨⟨⟨⟨tt_,(Qpq  hx7)⟩,rfl⟩,(Ql5 _ _ hx8)⟩,rfl⟩,(Ql5 _ _ hx9)⟩ ?_
 refine AK.meetX (fun σ=>σ=⟨[(1,.sl 1 (m2.map Qf)),(3,.sl 1 (more4.map Qf)),(4,.loc 4 0 0),(6,.loc 6 0 0),(9,.b x7),(53,.b ((!x8)||((!x9)||((decide (20<(o3.Vars.length:Int)))||((decide (20<(o3.Ins.length:Int)))||(decide (20<(o3.Outs.length:Int))))))))],[(4,.var (Qd n1)),(6,.var (Qj o3))]⟩) ?_ ?_
 ·refine Qa hC [.n 4] rfl tt_ ?_
  rcases QJ (!x8)with hc11 | hc11
  ·refine Qa hC [.say 32 (.b true),.n 22,.say 53 (.b ((!x8)||((!x9)||((decide (20<(o3.Vars.length:Int)))||((decide (20<(o3.Ins.length:Int)))||(decide (20<(o3.Outs.length:Int)))))))),.keep [1,3,4,6,9,53] [4,6]] rfl ⟨⟨tt_,(congrArg V.b hc11)⟩,(congrArg V.b (orT hc11 rfl))⟩ ?_
   exact AK.met rfl
  ·refine Qa hC [.say 32 (.b false),.n 4] rfl ⟨tt_,(congrArg V.b hc11)⟩ ?_
   rcases QJ (!x9)with hc12 | hc12
   ·refine Qa hC [.say 36 (.b true),.n 18,.say 53 (.b ((!x8)||((!x9)||((decide (20<(o3.Vars.length:Int)))||((decide (20<(o3.Ins.length:Int)))||(decide (20<(o3.Outs.length:Int)))))))),.keep [1,3,4,6,9,53] [4,6]] rfl ⟨⟨tt_,(congrArg V.b hc12)⟩,(congrArg V.b (orF hc11 (orT hc12 rfl)))⟩ ?_
    exact AK.met rfl
   ·refine Qa hC [.say 36 (.b false),.n 2,.o (.ln o3.Vars.length),.n 3] rfl ⟨⟨tt_,(congrArg V.b hc12)⟩,Qg⟩ ?_
    rcases QJ (decide (20<(o3.Vars.length:Int)))with hc13 | hc13
    ·refine Qa hC [.say 42 (.b true),.n 12,.say 53 (.b ((!x8)||((!x9)||((decide (20<(o3.Vars.length:Int)))||((decide (20<(o3.Ins.length:Int)))||(decide (20<(o3.Outs.length:Int)))))))),.keep [1,3,4,6,9,53] [4,6]] rfl ⟨⟨tt_,(congrArg V.b hc13)⟩,(congrArg V.b (orF hc11 (orF hc12 (orT hc13 rfl))))⟩ ?_
     exact AK.met rfl
    ·refine Qa hC [.say 42 (.b false),.n 2,.o (.ln o3.Ins.length),.n 3] rfl ⟨⟨tt_,(congrArg V.b hc13)⟩,Qg⟩ ?_
     rcases QJ (decide (20<(o3.Ins.length:Int)))with hc14 | hc14
     ·refine Qa hC [.say 48 (.b true),.n 6,.say 53 (.b ((!x8)||((!x9)||((decide (20<(o3.Vars.length:Int)))||((decide (20<(o3.Ins.length:Int)))||(decide (20<(o3.Outs.length:Int)))))))),.keep [1,3,4,6,9,53] [4,6]] rfl ⟨⟨tt_,(congrArg V.b hc14)⟩,(congrArg V.b (orF hc11 (orF hc12 (orF hc13 (orT hc14 rfl)))))⟩ ?_
      exact AK.met rfl
     ·refine Qa hC [.say 48 (.b false),.n 2,.o (.ln o3.Outs.length),.n 3,.say 53 (.b ((!x8)||((!x9)||((decide (20<(o3.Vars.length:Int)))||((decide (20<(o3.Ins.length:Int)))||(decide (20<(o3.Outs.length:Int)))))))),.keep [1,3,4,6,9,53] [4,6]] rfl ⟨⟨⟨tt_,(congrArg V.b hc14)⟩,Qg⟩,(congrArg V.b (orF hc11 (orF hc12 (orF hc13 (orF hc14 rfl)))))⟩ ?_
      exact AK.met rfl
 ·rintro σ rfl
  refine Qa hC [.n 1] rfl tt_ ?_
  rcases bifE h with⟨hc15,h⟩|⟨hc15,h⟩
  ·refine Qa hC [.br true,.n 8,.keep [8] []] rfl ⟨tt_,hc15⟩ ?_
   cases h
   exact AK.done (ex_ [_] (an_ (an_ rfl tt_) (gives tt_)))
  ·obtain⟨x16,hx16,h⟩:=Qb h
   refine Qa hC [.br false,.n 4,.v .no [] (.agg (Qd n1)),.n 1,.v .no [] (.agg (Qj o3)),.o (.c false [.d,.d,.d] (.tup [.sl 1 (x16.1.map Qf),.i .i64 x16.2])),.n 9] rfl ⟨⟨⟨⟨tt_,hc15⟩,rfl⟩,rfl⟩,(Qgd _ _ _ hx16)⟩ ?_
   obtain⟨x17,hv18,h⟩:=Qb h
   replace h:Qb2 x7 m2 more4 x16 n1 o3 x17=some r:=h
   refine AK.meetX (fun σ=>σ=⟨[(1,.sl 1 (m2.map Qf)),(3,.sl 1 (more4.map Qf)),(4,.loc 4 0 0),(6,.loc 6 0 0),(9,.b x7),(12,.sl 1 (x16.1.map Qf)),(84,.b x17)],[(4,.var (Qd n1)),(6,.var (Qj o3))]⟩) ?_ ?_
   ·replace h:=hv18
    unfold Qe6 at h
    refine Qa hC [.n 4] rfl tt_ ?_
    rcases bifE h with⟨hc19,h⟩|⟨hc19,h⟩
    ·refine Qa hC [.say 64 (.b true),.n 21,.keep [1,3,4,6,9,12,84] [4,6]] rfl ⟨tt_,(congrArg V.b hc19)⟩ ?_
     cases h
     exact AK.met rfl
    ·obtain⟨e20,he20,h⟩:=Qb h
     refine Qa hC [.say 64 (.b false),.n 4,.o (.row (Qi e20)),.n 2,.o (.ln e20.Cancel.length),.n 3] rfl ⟨⟨⟨tt_,(congrArg V.b hc19)⟩,(idxM he20)⟩,Qg⟩ ?_
     rcases bifE h with⟨hc21,h⟩|⟨hc21,h⟩
     ·refine Qa hC [.say 75 (.b true),.n 10,.keep [1,3,4,6,9,12,84] [4,6]] rfl ⟨tt_,(congrArg V.b hc21)⟩ ?_
      cases h
      exact AK.met rfl
     ·obtain⟨e22,he22,h⟩:=Qb h
      refine Qa hC [.say 75 (.b false),.n 4,.o (.row (Qi e22)),.n 5,.keep [1,3,4,6,9,12,84] [4,6]] rfl ⟨⟨tt_,(congrArg V.b hc21)⟩,(idxM he22)⟩ ?_
      cases h
      exact AK.met rfl
   ·rintro σ rfl
    replace h:Qb2 x7 m2 more4 x16 n1 o3 x17=some r:=h
    unfold Qb2 at h
    refine Qa hC [.n 1] rfl tt_ ?_
    rcases bifE h with⟨hc23,h⟩|⟨hc23,h⟩
    ·refine Qa hC [.br true,.n 8,.keep [8] []] rfl ⟨tt_,hc23⟩ ?_
     cases h
     exact AK.done (ex_ [_] (an_ (an_ rfl tt_) (gives tt_)))
    ·refine Qa hC [.br false,.n 19,.adopt 14 123 1,.sayO 123 (.arr 1 (([]:List (List (Int×Int))).map Qf)),.adopt 15 127 1,.sayO 127 (.arr 1 (([]:List (List (Int×Int))).map Qf)),.say 14 (.own 123 ([]:List (List (Int×Int))).length),.say 15 (.own 127 ([]:List (List (Int×Int))).length),.keep [1,3,4,6,9,12,14,15,16] [4,6,123,127]] rfl ⟨⟨⟨⟨⟨tt_,hc23⟩,rfl⟩,rfl⟩,(congrArg (fun n=>V.own 123 n) (by simp))⟩,(congrArg (fun n=>V.own 127 n) (by simp))⟩ ?_
     obtain⟨o45,hl45,h⟩:=Qb h
     refine AK.loop (body:=(fun st=>Qbr m2 more4 x16 st.1 st.2.1 st.2.2)) (fun st σ=>σ=⟨[(1,.sl 1 (m2.map Qf)),(3,.sl 1 (more4.map Qf)),(4,.loc 4 0 0),(6,.loc 6 0 0),(9,.b x7),(12,.sl 1 (x16.1.map Qf)),(14,.own 123 st.2.1.length),(15,.own 127 st.2.2.length),(16,.i .i64 st.1)],[(4,.var (Qd n1)),(6,.var (Qj o3)),(123,.arr 1 (st.2.1.map Qf)),(127,.arr 1 (st.2.2.map Qf))]⟩) (Sum.elim (fun q e σ=>e=.ret∧σ=⟨[(8,.b x7)],[]⟩) (fun q e σ=>e=.exit 0∧σ=⟨[(4,.loc 4 0 0),(6,.loc 6 0 0),(9,.b x7),(14,.own 123 q.1.length),(15,.own 127 q.2.length)],[(4,.var (Qd n1)),(6,.var (Qj o3)),(123,.arr 1 (q.1.map Qf)),(127,.arr 1 (q.2.map Qf))]⟩)) hl45 rfl ?_ ?_
     ·rintro ⟨i25,l26,l27⟩ o σ rfl h
      replace h:Qbr m2 more4 x16 i25 l26 l27=some o:=h
      unfold Qbr at h
      refine Qa hC [.n 5,.o (.ln m2.length),.n 3] rfl ⟨tt_,Qg⟩ ?_
      rcases bifE h with⟨hc33,h⟩|⟨hc33,h⟩
      ·obtain⟨e34,he34,h⟩:=Qb h
       obtain⟨e35,he35,h⟩:=Qb h
       obtain⟨x36,hx36,h⟩:=Qb h
       refine Qa hC [.br true,.n 5,.keep [1,3,4,6,9,12,14,15,16] [4,6,123,127]] rfl ⟨tt_,hc33⟩ ?_
       refine AK.draw2 Qp hC mixed [.a .no none false,.a .no none false,.a (.row (Qf e34)) none false,.a .no none false,.a .no none false,.a .no none false,.a (.row (Qf e35)) none false,.a .no none false,.a (.c false [.d,.d] (.tup [.sl 2 (x36.1.map Qs),.i .i64 x36.2])) none false,.a .no none false,.a .no none false,.a .no none false,.a .no none false,.a .no none false] [] [] [1,3,4,6,9,12,14,15,16,17,18] [4,6,123,127] rfl rfl rfl ⟨⟨⟨tt_,(idxM he34)⟩,(idxM he35)⟩,(QjA _ _ hx36)⟩ rfl (by kernel_rfl) rfl rfl rfl ?_
       obtain⟨e37,he37,h⟩:=Qb h
       obtain⟨e38,he38,h⟩:=Qb h
       obtain⟨x39,hx39,h⟩:=Qb h
       refine Qa hC [.n 2,.keep [1,3,4,6,9,12,14,15,16,17,18] [4,6,123,127]] rfl tt_ ?_
       refine AK.draw2 Qp hC mixed [.a .no none false,.a .no none false,.a (.row (Qf e37)) none false,.a .no none false,.a .no none false,.a .no none false,.a (.row (Qf e38)) none false,.a .no none false,.a (.c false [.d,.d] (.tup [.sl 2 (x39.1.map Qs),.i .i64 x39.2])) none false,.a .no none false,.a .no none false,.a .no none false,.a .no none false,.a .no none false] [] [] [1,3,4,6,9,12,14,15,16,17,18,19,20] [4,6,123,127] rfl rfl rfl ⟨⟨⟨tt_,(idxM he37)⟩,(idxM he38)⟩,(QjA _ _ hx39)⟩ rfl (by kernel_rfl) rfl rfl rfl ?_
       refine Qa hC [.n 3] rfl tt_ ?_
       refine AK.meetX (fun σ=>σ=⟨[(1,.sl 1 (m2.map Qf)),(3,.sl 1 (more4.map Qf)),(4,.loc 4 0 0),(6,.loc 6 0 0),(9,.b x7),(12,.sl 1 (x16.1.map Qf)),(14,.own 123 l26.length),(15,.own 127 l27.length),(16,.i .i64 i25),(17,.sl 2 (x36.1.map Qs)),(19,.sl 2 (x39.1.map Qs)),(121,.b ((x36.2 != 0)||(x39.2 != 0)))],[(4,.var (Qd n1)),(6,.var (Qj o3)),(123,.arr 1 (l26.map Qf)),(127,.arr 1 (l27.map Qf))]⟩) ?_ ?_
       ·refine Qa hC [.n 4] rfl tt_ ?_
        rcases QJ (x36.2 != 0)with hc41 | hc41
        ·refine Qa hC [.say 118 (.b true),.n 4,.say 121 (.b ((x36.2 != 0)||(x39.2 != 0))),.keep [1,3,4,6,9,12,14,15,16,17,19,121] [4,6,123,127]] rfl ⟨⟨tt_,(congrArg V.b hc41)⟩,(congrArg V.b (orT hc41 rfl))⟩ ?_
         exact AK.met rfl
        ·refine Qa hC [.say 118 (.b false),.n 4,.say 121 (.b ((x36.2 != 0)||(x39.2 != 0))),.keep [1,3,4,6,9,12,14,15,16,17,19,121] [4,6,123,127]] rfl ⟨⟨tt_,(congrArg V.b hc41)⟩,(congrArg V.b (orF hc41 rfl))⟩ ?_
         exact AK.met rfl
       ·rintro σ rfl
        refine Qa hC [.n 1] rfl tt_ ?_
        rcases bifE h with⟨hc42,h⟩|⟨hc42,h⟩
        ·refine Qa hC [.br true,.n 10,.keep [8] []] rfl ⟨tt_,hc42⟩ ?_
         cases h
         exact rndR rfl (an_ rfl rfl)
        ·obtain⟨_,hk43,h⟩:=Qb h
         replace hk43:=chkE hk43
         obtain⟨_,hk44,h⟩:=Qb h
         replace hk44:=chkE hk44
         refine Qa hC [.br false,.n 6,.v (.bd []) [] (.sl 1 (([x36.1]:List (List (Int×Int))).map Qf)),.app ((l26++([x36.1]:List (List (Int×Int)))).map Qf) (l26++([x36.1]:List (List (Int×Int)))).length,.n 6,.v (.bd []) [] (.sl 1 (([x39.1]:List (List (Int×Int))).map Qf)),.app ((l27++([x39.1]:List (List (Int×Int)))).map Qf) (l27++([x39.1]:List (List (Int×Int)))).length,.n 9,.keep [1,3,4,6,9,12,14,15,16] [4,6,123,127]] rfl ⟨⟨⟨⟨⟨tt_,hc42⟩,rfl⟩,⟨Qg,Qdn hk43 Qg,Qco,Qfl Qg⟩⟩,rfl⟩,⟨Qg,Qdn hk44 Qg,Qco,Qfl Qg⟩⟩ ?_
         cases h
         exact rndN rfl rfl
      ·refine Qa hC [.br false,.n 2,.keep [4,6,9,14,15] [4,6,123,127]] rfl ⟨tt_,hc33⟩ ?_
       cases h
       exact rndX rfl (an_ rfl rfl)
     ·rcases o45 with(_ | ⟨l31,l32⟩)
      ·replace h:Qhm x7=some r:=h
       unfold Qhm at h
       rintro e σ ⟨rfl,rfl⟩
       refine Qa hC [.n 2,.keep [8] []] rfl tt_ ?_
       cases h
       exact AK.done (ex_ [_] (an_ (an_ rfl tt_) (gives tt_)))
      ·replace h:Qc6 n1 o3 x7 l31 l32=some r:=h
       unfold Qc6 at h
       rintro e σ ⟨rfl,rfl⟩
       obtain⟨x46,hx46,h⟩:=Qb h
       refine Qa hC [.n 4,.v .no [] (.agg (Qd n1)),.n 1,.v .no [] (.agg (Qj o3)),.frz 123 (l31.map Qf) [14,133] [],.o (.c false [.d,.d,.d] (.tup [.sl 1 (x46.1.map Qf),.i .i64 x46.2])),.n 8] rfl ⟨⟨⟨⟨tt_,rfl⟩,rfl⟩,⟨⟨tt_,(frzL Qg)⟩,(frzL Qg)⟩⟩,(Qgd _ _ _ hx46)⟩ ?_
       obtain⟨x47,hv48,h⟩:=Qb h
       replace h:Qe7 x47=some r:=h
       refine AK.meetX (fun σ=>σ=⟨[(8,.b x47)],[]⟩) ?_ ?_
       ·replace h:=hv48
        unfold Qhn at h
        refine Qa hC [.n 3] rfl tt_ ?_
        rcases bifE h with⟨hc49,h⟩|⟨hc49,h⟩
        ·refine Qa hC [.say 139 (.b true),.n 4] rfl ⟨tt_,(congrArg V.b hc49)⟩ ?_
         rcases bifE h with⟨hc50,h⟩|⟨hc50,h⟩
         ·obtain⟨x51,hx51,h⟩:=Qb h
          refine Qa hC [.say 143 (.b true),.n 2,.o (.c true [.d,.o (l32.map Qf)] (.b x51)),.n 3,.keep [8] []] rfl ⟨⟨tt_,(congrArg V.b hc50)⟩,⟨(QoD rfl),(Qmy _ _ hx51)⟩⟩ ?_
          cases h
          exact AK.met rfl
         ·refine Qa hC [.say 143 (.b false),.n 6,.keep [8] []] rfl ⟨tt_,(congrArg V.b hc50)⟩ ?_
          cases h
          exact AK.met rfl
        ·refine Qa hC [.say 139 (.b false),.n 10,.keep [8] []] rfl ⟨tt_,(congrArg V.b hc49)⟩ ?_
         cases h
         exact AK.met rfl
       ·rintro σ rfl
        replace h:Qe7 x47=some r:=h
        unfold Qe7 at h
        refine Qa hC [.n 2,.keep [8] []] rfl tt_ ?_
        cases h
        exact AK.done (ex_ [_] (an_ (an_ rfl tt_) (gives tt_)))

end Go.Proofs
