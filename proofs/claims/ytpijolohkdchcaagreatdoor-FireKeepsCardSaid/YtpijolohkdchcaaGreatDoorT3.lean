/- What functions of the program do, as functions over plain data, and the walks that show it: printed by a program. -/
import Derived.Test.YtpijolohkdchcaaGreatDoorT2
set_option linter.unusedVariables false
set_option linter.unusedSimpArgs false
set_option linter.unusedSectionVars false
set_option linter.deprecated false
set_option maxRecDepth 100000
set_option maxHeartbeats 4000000
noncomputable section
namespace Go.Proofs
open Go Go.RowKit Go.Vm
def QdJ (v1:TNet)(v2:Qr)(v3:Int):Option (Bool×Int):=
 (QfS v1 v2).bind fun x6=>
 some ((x6==0),x6)
theorem QmS (v1:TNet)(v2:Qr)(v3:Int){r:(Bool×Int)}(h:QdJ v1 v2 v3=some r):Qc Tryz.prog 170 [.loc 200000 0 0,.loc 200003 0 0] [(200000,.var [.clo (.func 132) [] [.loc 200001 0 0,.loc 200002 0 0]]),(200001,.var (Qd v1)),(200002,.var (Qi v2)),(200003,.var [.loc 200004 0 0]),(200004,.var (Qe v3))] (Gives (.b r.1) [(200000,.var [.clo (.func 132) [] [.loc 200001 0 0,.loc 200002 0 0]]),(200001,.var (Qd v1)),(200002,.var (Qi v2)),(200003,.var [.loc 200004 0 0]),(200004,.var (Qe r.2))]):=by
 refine Qc.walk 11 Tryz.func170 rfl Tryz.ntmps170 rfl fun C hC=>?_
 unfold QdJ at h
 obtain⟨x6,hx6,h⟩:=Qb h
 refine Qa hC [.n 6,.keep [0,1] [200000,200001,200002,200003,200004]] rfl tt_ ?_
 refine AK.draw2 Qo hC mixed [.a .no none false,.a .no none false,.a (.any (.i .i64 x6) none) none false,.a .no none false,.m .s] [] [] [1] [200000,200001,200002,200003,200004] rfl rfl rfl ⟨tt_,(fun σ h1 h2 _=>Stp.callSame (md:=.cm (.clo) [(200000,200001),(200001,200002)] [(200001,200000),(200002,200001)] [] [.d,.d] [(200000,.var (Qd v1)),(200001,.var (Qi v2))] (.i .i64 x6) [200001,200002]) Qo hC h1 h2 rfl ⟨⟨tt_,(QoB _ _ hx6)⟩,⟨rfl,rfl,tt_⟩⟩)⟩ rfl (by kernel_rfl) rfl rfl rfl ?_
 refine Qa hC [.sayO 200004 (.var (Qe x6)),.n 11,.keep [2] [200000,200001,200002,200003,200004]] rfl ⟨tt_,rfl⟩ ?_
 cases h
 exact AK.done (ex_ [_] (an_ (an_ rfl tt_) (gives ⟨rfl,rfl,rfl,rfl,rfl,tt_⟩)))
def QdZ (k1:Int)(l2:(List TArc)):Option Bool:=
 some ((decide (1≤k1))&&((decide (k1≤3))&&((k1 != 3)||(decide ((l2.length:Int)≤4)))))
theorem QkT (k1:Int)(l2:(List TArc)){r:Bool}(h:QdZ k1 l2=some r):Qc Tryz.prog 189 [.i .i64 k1,.sl 4 (l2.map QN)] [] (Gives (.b r) []):=by
 refine Qc.walk 20 Tryz.func189 rfl Tryz.ntmps189 rfl fun C hC=>?_
 unfold QdZ at h
 refine Qa hC [.n 6] rfl tt_ ?_
 refine AK.meetX (fun σ=>σ=⟨[(4,.b ((decide (1≤k1))&&((decide (k1≤3))&&((k1 != 3)||(decide ((l2.length:Int)≤4))))))],[]⟩) ?_ ?_
 ·refine Qa hC [.n 4] rfl tt_ ?_
  rcases QK (decide (1≤k1))with hc5 | hc5
  ·refine Qa hC [.say 7 (.b true),.n 4] rfl ⟨tt_,(congrArg V.b hc5)⟩ ?_
   rcases QK (decide (k1≤3))with hc6 | hc6
   ·refine Qa hC [.say 11 (.b true),.n 3] rfl ⟨tt_,(congrArg V.b hc6)⟩ ?_
    rcases QK (k1 != 3)with hc7 | hc7
    ·refine Qa hC [.say 14 (.b true),.n 7,.say 4 (.b ((decide (1≤k1))&&((decide (k1≤3))&&((k1 != 3)||(decide ((l2.length:Int)≤4)))))),.keep [4] []] rfl ⟨⟨tt_,(congrArg V.b hc7)⟩,(congrArg V.b (andT hc5 (andT hc6 (orT hc7 rfl))))⟩ ?_
     exact AK.met rfl
    ·refine Qa hC [.say 14 (.b false),.n 1,.o (.ln l2.length),.n 5,.say 4 (.b ((decide (1≤k1))&&((decide (k1≤3))&&((k1 != 3)||(decide ((l2.length:Int)≤4)))))),.keep [4] []] rfl ⟨⟨⟨tt_,(congrArg V.b hc7)⟩,Qh⟩,(congrArg V.b (andT hc5 (andT hc6 (orF hc7 rfl))))⟩ ?_
     exact AK.met rfl
   ·refine Qa hC [.say 11 (.b false),.n 10,.say 4 (.b ((decide (1≤k1))&&((decide (k1≤3))&&((k1 != 3)||(decide ((l2.length:Int)≤4)))))),.keep [4] []] rfl ⟨⟨tt_,(congrArg V.b hc6)⟩,(congrArg V.b (andT hc5 (andF hc6 rfl)))⟩ ?_
    exact AK.met rfl
  ·refine Qa hC [.say 7 (.b false),.n 14,.say 4 (.b ((decide (1≤k1))&&((decide (k1≤3))&&((k1 != 3)||(decide ((l2.length:Int)≤4)))))),.keep [4] []] rfl ⟨⟨tt_,(congrArg V.b hc5)⟩,(congrArg V.b (andF hc5 rfl))⟩ ?_
   exact AK.met rfl
 ·rintro σ rfl
  refine Qa hC [.n 2,.keep [4] []] rfl tt_ ?_
  cases h
  exact AK.done (ex_ [_] (an_ (an_ rfl tt_) (gives tt_)))
def Qjo (t1:Qr):Option Bool:=
 (QdZ t1.Join t1.Ins).bind fun x11=>
 bif x11 then
 (QdZ t1.Split t1.Outs).bind fun x13=>
 bif x13 then
 bif (decide (0≤t1.After))then
 bif (decide (t1.After≤65536))then
 some (((t1.Many.1==0)&&((t1.Many.2.1==0)&&(t1.Many.2.2==0)))||((decide (1≤t1.Many.1))&&((decide (t1.Many.1≤t1.Many.2.1))&&((decide (t1.Many.2.1≤16))&&((decide (1≤t1.Many.2.2))&&(decide (t1.Many.2.2≤t1.Many.2.1)))))))
 else
 some false
 else
 some false
 else
 some false
 else
 some false
def Qfd (x9:Bool):Option Bool:=
 some x9
def Qhl (t1:Qr):Option Bool:=
 (Qjo t1).bind (fun x9=>Qfd x9)
theorem QpU (t1:Qr){r:Bool}(h:Qhl t1=some r):Qc Tryz.prog 135 [.agg (Qi t1)] [] (Gives (.b r) []):=by
 refine Qc.walk 70 Tryz.func135 rfl Tryz.ntmps135 rfl fun C hC=>?_
 unfold Qhl at h
 refine Qa hC [.n 7,.keep [1] [1]] rfl tt_ ?_
 refine AK.draw2 Qo hC mixed [.a .no none false,.a .no none false,.a .no none false,.a .no none false,.a .no none false,.a .no none false,.a .no none false,.a .no none false,.a .no none false,.a .no none false,.a .no none false,.a .no none false] [] [] [1,3,4,5] [1] rfl rfl rfl tt_ rfl (by kernel_rfl) rfl rfl rfl ?_
 refine Qa hC [.n 2] rfl tt_ ?_
 refine AK.meetX (fun σ=>σ=⟨[(1,.loc 1 0 0),(6,.b (((t1.Many.1==0)&&((t1.Many.2.1==0)&&(t1.Many.2.2==0)))||((decide (1≤t1.Many.1))&&((decide (t1.Many.1≤t1.Many.2.1))&&((decide (t1.Many.2.1≤16))&&((decide (1≤t1.Many.2.2))&&(decide (t1.Many.2.2≤t1.Many.2.1))))))))],[(1,.var (Qi t1))]⟩) ?_ ?_
 ·refine Qa hC [.n 2,.v .no [] (.agg (Qq1 t1.Many)),.v .no [] (.agg (Qq1 (0,0,0))),.o (.any (.b ((t1.Many.1==0)&&((t1.Many.2.1==0)&&(t1.Many.2.2==0)))) none),.n 1] rfl ⟨⟨⟨tt_,rfl⟩,rfl⟩,(fun σ h1 h2 _=>Stp.eqAgg rfl rfl (bleN hC.n rfl) (h1 _ _ rfl) (h1 _ _ rfl) rfl rfl (QvH _ _ _ _ _ _))⟩ ?_
  rcases QK ((t1.Many.1==0)&&((t1.Many.2.1==0)&&(t1.Many.2.2==0)))with hc4 | hc4
  ·refine Qa hC [.say 21 (.b true),.n 23,.say 6 (.b (((t1.Many.1==0)&&((t1.Many.2.1==0)&&(t1.Many.2.2==0)))||((decide (1≤t1.Many.1))&&((decide (t1.Many.1≤t1.Many.2.1))&&((decide (t1.Many.2.1≤16))&&((decide (1≤t1.Many.2.2))&&(decide (t1.Many.2.2≤t1.Many.2.1)))))))),.keep [1,6] [1]] rfl ⟨⟨tt_,(congrArg V.b hc4)⟩,(congrArg V.b (orT hc4 rfl))⟩ ?_
   exact AK.met rfl
  ·refine Qa hC [.say 21 (.b false),.n 3] rfl ⟨tt_,(congrArg V.b hc4)⟩ ?_
   rcases QK (decide (1≤t1.Many.1))with hc5 | hc5
   ·refine Qa hC [.say 24 (.b true),.n 5] rfl ⟨tt_,(congrArg V.b hc5)⟩ ?_
    rcases QK (decide (t1.Many.1≤t1.Many.2.1))with hc6 | hc6
    ·refine Qa hC [.say 29 (.b true),.n 4] rfl ⟨tt_,(congrArg V.b hc6)⟩ ?_
     rcases QK (decide (t1.Many.2.1≤16))with hc7 | hc7
     ·refine Qa hC [.say 33 (.b true),.n 4] rfl ⟨tt_,(congrArg V.b hc7)⟩ ?_
      rcases QK (decide (1≤t1.Many.2.2))with hc8 | hc8
      ·refine Qa hC [.say 37 (.b true),.n 7,.say 6 (.b (((t1.Many.1==0)&&((t1.Many.2.1==0)&&(t1.Many.2.2==0)))||((decide (1≤t1.Many.1))&&((decide (t1.Many.1≤t1.Many.2.1))&&((decide (t1.Many.2.1≤16))&&((decide (1≤t1.Many.2.2))&&(decide (t1.Many.2.2≤t1.Many.2.1)))))))),.keep [1,6] [1]] rfl ⟨⟨tt_,(congrArg V.b hc8)⟩,(congrArg V.b (orF hc4 (andT hc5 (andT hc6 (andT hc7 (andT hc8 rfl))))))⟩ ?_
       exact AK.met rfl
      ·refine Qa hC [.say 37 (.b false),.n 7,.say 6 (.b (((t1.Many.1==0)&&((t1.Many.2.1==0)&&(t1.Many.2.2==0)))||((decide (1≤t1.Many.1))&&((decide (t1.Many.1≤t1.Many.2.1))&&((decide (t1.Many.2.1≤16))&&((decide (1≤t1.Many.2.2))&&(decide (t1.Many.2.2≤t1.Many.2.1)))))))),.keep [1,6] [1]] rfl ⟨⟨tt_,(congrArg V.b hc8)⟩,(congrArg V.b (orF hc4 (andT hc5 (andT hc6 (andT hc7 (andF hc8 rfl))))))⟩ ?_
       exact AK.met rfl
     ·refine Qa hC [.say 33 (.b false),.n 11,.say 6 (.b (((t1.Many.1==0)&&((t1.Many.2.1==0)&&(t1.Many.2.2==0)))||((decide (1≤t1.Many.1))&&((decide (t1.Many.1≤t1.Many.2.1))&&((decide (t1.Many.2.1≤16))&&((decide (1≤t1.Many.2.2))&&(decide (t1.Many.2.2≤t1.Many.2.1)))))))),.keep [1,6] [1]] rfl ⟨⟨tt_,(congrArg V.b hc7)⟩,(congrArg V.b (orF hc4 (andT hc5 (andT hc6 (andF hc7 rfl)))))⟩ ?_
      exact AK.met rfl
    ·refine Qa hC [.say 29 (.b false),.n 15,.say 6 (.b (((t1.Many.1==0)&&((t1.Many.2.1==0)&&(t1.Many.2.2==0)))||((decide (1≤t1.Many.1))&&((decide (t1.Many.1≤t1.Many.2.1))&&((decide (t1.Many.2.1≤16))&&((decide (1≤t1.Many.2.2))&&(decide (t1.Many.2.2≤t1.Many.2.1)))))))),.keep [1,6] [1]] rfl ⟨⟨tt_,(congrArg V.b hc6)⟩,(congrArg V.b (orF hc4 (andT hc5 (andF hc6 rfl))))⟩ ?_
     exact AK.met rfl
   ·refine Qa hC [.say 24 (.b false),.n 20,.say 6 (.b (((t1.Many.1==0)&&((t1.Many.2.1==0)&&(t1.Many.2.2==0)))||((decide (1≤t1.Many.1))&&((decide (t1.Many.1≤t1.Many.2.1))&&((decide (t1.Many.2.1≤16))&&((decide (1≤t1.Many.2.2))&&(decide (t1.Many.2.2≤t1.Many.2.1)))))))),.keep [1,6] [1]] rfl ⟨⟨tt_,(congrArg V.b hc5)⟩,(congrArg V.b (orF hc4 (andF hc5 rfl)))⟩ ?_
    exact AK.met rfl
 ·rintro σ rfl
  refine Qa hC [.n 7] rfl tt_ ?_
  obtain⟨x9,hv10,h⟩:=Qb h
  replace h:Qfd x9=some r:=h
  refine AK.meetX (fun σ=>σ=⟨[(2,.b x9)],[]⟩) ?_ ?_
  ·replace h:=hv10
   unfold Qjo at h
   obtain⟨x11,hx11,h⟩:=Qb h
   refine Qa hC [.n 6,.o (.c false [.d,.d] (.b x11)),.n 1] rfl ⟨tt_,(QkT _ _ hx11)⟩ ?_
   rcases bifE h with⟨hc12,h⟩|⟨hc12,h⟩
   ·obtain⟨x13,hx13,h⟩:=Qb h
    refine Qa hC [.say 49 (.b true),.n 5,.o (.c false [.d,.d] (.b x13)),.n 2] rfl ⟨⟨tt_,(congrArg V.b hc12)⟩,(QkT _ _ hx13)⟩ ?_
    rcases bifE h with⟨hc14,h⟩|⟨hc14,h⟩
    ·refine Qa hC [.say 57 (.b true),.n 5] rfl ⟨tt_,(congrArg V.b hc14)⟩ ?_
     rcases bifE h with⟨hc15,h⟩|⟨hc15,h⟩
     ·refine Qa hC [.say 62 (.b true),.n 5] rfl ⟨tt_,(congrArg V.b hc15)⟩ ?_
      rcases bifE h with⟨hc16,h⟩|⟨hc16,h⟩
      ·refine Qa hC [.say 67 (.b true),.n 4,.keep [2] []] rfl ⟨tt_,(congrArg V.b hc16)⟩ ?_
       cases h
       exact AK.met rfl
      ·refine Qa hC [.say 67 (.b false),.n 4,.keep [2] []] rfl ⟨tt_,(congrArg V.b hc16)⟩ ?_
       cases h
       exact AK.met rfl
     ·refine Qa hC [.say 62 (.b false),.n 9,.keep [2] []] rfl ⟨tt_,(congrArg V.b hc15)⟩ ?_
      cases h
      exact AK.met rfl
    ·refine Qa hC [.say 57 (.b false),.n 14,.keep [2] []] rfl ⟨tt_,(congrArg V.b hc14)⟩ ?_
     cases h
     exact AK.met rfl
   ·refine Qa hC [.say 49 (.b false),.n 22,.keep [2] []] rfl ⟨tt_,(congrArg V.b hc12)⟩ ?_
    cases h
    exact AK.met rfl
  ·rintro σ rfl
   replace h:Qfd x9=some r:=h
   unfold Qfd at h
   refine Qa hC [.n 2,.keep [2] []] rfl tt_ ?_
   cases h
   exact AK.done (ex_ [_] (an_ (an_ rfl tt_) (gives tt_)))
def QfT (v1:Qr):Option Bool:=
 (Qhl v1).bind fun x3=>
 some x3
theorem QoC (v1:Qr){r:Bool}(h:QfT v1=some r):Qc Tryz.prog 134 [.loc 200000 0 0] [(200000,.var (Qi v1))] (Gives (.b r) [(200000,.var (Qi v1))]):=by
 refine Qc.walk 4 Tryz.func134 rfl Tryz.ntmps134 rfl fun C hC=>?_
 unfold QfT at h
 obtain⟨x3,hx3,h⟩:=Qb h
 refine Qa hC [.n 7,.v .no [] (.agg (Qi v1)),.o (.c false [.d] (.b x3)),.n 4,.keep [1] [200000]] rfl ⟨⟨tt_,rfl⟩,(QpU _ hx3)⟩ ?_
 cases h
 exact AK.done (ex_ [_] (an_ (an_ rfl tt_) (gives ⟨rfl,tt_⟩)))
def Qdu (v1:Qr)(v2:Int)(v3:TNet)(v4:Int)(v5:Int)(v6:Int)(v7:Int)(v8:Int)(v9:Int)(v10:Int)(v11:Int)(v12:Int)(v13:Int)(v14:Int)(v15:Int):Option (Int×Int):=
 (Qgy v1).bind fun x20=>
 bif (!x20)then
 some (v2,v8)
 else
 (QgB v3 v4 v1).bind fun x22=>
 bif (!x22)then
 some (v5,v8)
 else
 (QeH v6 v1).bind fun x24=>
 bif (!x24)then
 some (v7,v8)
 else
 (QfQ v3 v1 v8).bind fun x26=>
 bif (!x26.1)then
 some (v9,x26.2)
 else
 (QgD v3 v4).bind fun x28=>
 bif (!x28)then
 some (v10,x26.2)
 else
 (QgE v1 v6).bind fun x30=>
 bif (!x30)then
 some (v11,x26.2)
 else
 (QdH v3 v1 v6 x26.2).bind fun x32=>
 bif (!x32.1)then
 some (v12,x32.2)
 else
 (QdI v3 v1 v6 x32.2).bind fun x34=>
 bif (!x34.1)then
 some (v13,x34.2)
 else
 (QdJ v3 v1 x34.2).bind fun x36=>
 bif (!x36.1)then
 some (v14,x36.2)
 else
 (QfT v1).bind fun x38=>
 bif (!x38)then
 some (v15,x36.2)
 else
 some (0,x36.2)
theorem QnZ (v1:Qr)(v2:Int)(v3:TNet)(v4:Int)(v5:Int)(v6:Int)(v7:Int)(v8:Int)(v9:Int)(v10:Int)(v11:Int)(v12:Int)(v13:Int)(v14:Int)(v15:Int){r:(Int×Int)}(h:Qdu v1 v2 v3 v4 v5 v6 v7 v8 v9 v10 v11 v12 v13 v14 v15=some r):Qc Tryz.prog 57 [.own 200000 10] [(200000,.var [.clo (.func 119) [] [.loc 200001 0 0],.i .i64 v2,.clo (.func 120) [] [.loc 200002 0 0,.loc 200003 0 0,.loc 200004 0 0],.i .i64 v5,.clo (.func 122) [] [.loc 200005 0 0,.loc 200001 0 0],.i .i64 v7,.clo (.func 170) [] [.loc 200006 0 0,.loc 200007 0 0],.i .i64 v9,.clo (.func 126) [] [.loc 200002 0 0,.loc 200003 0 0],.i .i64 v10,.clo (.func 127) [] [.loc 200001 0 0,.loc 200005 0 0],.i .i64 v11,.clo (.func 170) [] [.loc 200009 0 0,.loc 200010 0 0],.i .i64 v12,.clo (.func 170) [] [.loc 200011 0 0,.loc 200012 0 0],.i .i64 v13,.clo (.func 170) [] [.loc 200013 0 0,.loc 200014 0 0],.i .i64 v14,.clo (.func 134) [] [.loc 200001 0 0],.i .i64 v15]),(200001,.var (Qi v1)),(200002,.var (Qd v3)),(200003,.var (Qe v4)),(200004,.var [.clo (.func 118) [] [.loc 200001 0 0]]),(200005,.var (Qe v6)),(200006,.var [.clo (.func 124) [] [.loc 200002 0 0,.loc 200001 0 0]]),(200007,.var [.loc 200008 0 0]),(200008,.var (Qe v8)),(200009,.var [.clo (.func 129) [] [.loc 200002 0 0,.loc 200001 0 0,.loc 200005 0 0]]),(200010,.var [.loc 200008 0 0]),(200011,.var [.clo (.func 131) [] [.loc 200002 0 0,.loc 200001 0 0,.loc 200005 0 0]]),(200012,.var [.loc 200008 0 0]),(200013,.var [.clo (.func 132) [] [.loc 200002 0 0,.loc 200001 0 0]]),(200014,.var [.loc 200008 0 0])] (Gives (.i .i64 r.1) [(200000,.var [.clo (.func 119) [] [.loc 200001 0 0],.i .i64 v2,.clo (.func 120) [] [.loc 200002 0 0,.loc 200003 0 0,.loc 200004 0 0],.i .i64 v5,.clo (.func 122) [] [.loc 200005 0 0,.loc 200001 0 0],.i .i64 v7,.clo (.func 170) [] [.loc 200006 0 0,.loc 200007 0 0],.i .i64 v9,.clo (.func 126) [] [.loc 200002 0 0,.loc 200003 0 0],.i .i64 v10,.clo (.func 127) [] [.loc 200001 0 0,.loc 200005 0 0],.i .i64 v11,.clo (.func 170) [] [.loc 200009 0 0,.loc 200010 0 0],.i .i64 v12,.clo (.func 170) [] [.loc 200011 0 0,.loc 200012 0 0],.i .i64 v13,.clo (.func 170) [] [.loc 200013 0 0,.loc 200014 0 0],.i .i64 v14,.clo (.func 134) [] [.loc 200001 0 0],.i .i64 v15]),(200001,.var (Qi v1)),(200002,.var (Qd v3)),(200003,.var (Qe v4)),(200004,.var [.clo (.func 118) [] [.loc 200001 0 0]]),(200005,.var (Qe v6)),(200006,.var [.clo (.func 124) [] [.loc 200002 0 0,.loc 200001 0 0]]),(200007,.var [.loc 200008 0 0]),(200008,.var (Qe r.2)),(200009,.var [.clo (.func 129) [] [.loc 200002 0 0,.loc 200001 0 0,.loc 200005 0 0]]),(200010,.var [.loc 200008 0 0]),(200011,.var [.clo (.func 131) [] [.loc 200002 0 0,.loc 200001 0 0,.loc 200005 0 0]]),(200012,.var [.loc 200008 0 0]),(200013,.var [.clo (.func 132) [] [.loc 200002 0 0,.loc 200001 0 0]]),(200014,.var [.loc 200008 0 0])]):=by
 refine Qc.walk 18 Tryz.func57 rfl Tryz.ntmps57 rfl fun C hC=>?_
 unfold Qdu at h
 refine Qa hC [.n 14] rfl tt_ ?_
 refine AK.loopN 11 (AK.rnd ?_)
 obtain⟨x20,hx20,h⟩:=Qb h
 refine Qa hC [.n 2,.v .no [] (.b true),.n 10,.o (.any (.loc 200000 0 0) none),.n 3,.sayO 4 (.var [.clo (.func 119) [] [.loc 200001 0 0],.i .i64 v2]),.n 6,.cm (.clo) [(200000,200001)] [(200001,200000)] [] [.d] [(200000,.var (Qi v1))] (.b x20),.n 3] rfl ⟨⟨⟨⟨tt_,rfl⟩,(fun σ h1 h2 _=>Stp.idxV rfl rfl (bleN hC.n rfl) (h1 _ _ rfl) (h1 _ _ rfl) (Qo.es rfl) (h2 _ _ rfl) (by decide))⟩,rfl⟩,(Qpb _ hx20)⟩ ?_
 rcases bifE h with⟨hc21,h⟩|⟨hc21,h⟩
 ·refine Qa hC [.br true,.n 13,.keep [2] [200000,200001,200002,200003,200004,200005,200006,200007,200008,200009,200010,200011,200012,200013,200014]] rfl ⟨tt_,hc21⟩ ?_
  cases h
  exact AK.done (ex_ [_] (an_ (an_ rfl tt_) (gives ⟨rfl,rfl,rfl,rfl,rfl,rfl,rfl,rfl,rfl,rfl,rfl,rfl,rfl,rfl,rfl,tt_⟩)))
 ·refine Qa hC [.br false,.n 4,.v .no [] (.i .i64 1),.n 2] rfl ⟨⟨tt_,hc21⟩,rfl⟩ ?_
  refine AK.met (AK.rnd ?_)
  obtain⟨x22,hx22,h⟩:=Qb h
  refine Qa hC [.n 2,.v .no [] (.b true),.n 10,.o (.any (.loc 200000 0 2) none),.n 1,.kill 4,.n 2,.sayO 4 (.var [.clo (.func 120) [] [.loc 200002 0 0,.loc 200003 0 0,.loc 200004 0 0],.i .i64 v5]),.n 6,.cm (.clo) [(200000,200002),(200001,200003),(200002,200004),(200003,200001)] [(200002,200000),(200003,200001),(200004,200002),(200001,200003)] [] [.d,.d,.d] [(200000,.var (Qd v3)),(200001,.var (Qe v4)),(200002,.var [.clo (.func 118) [] [.loc 200003 0 0]]),(200003,.var (Qi v1))] (.b x22),.n 3] rfl ⟨⟨⟨⟨tt_,rfl⟩,(fun σ h1 h2 _=>Stp.idxV rfl rfl (bleN hC.n rfl) (h1 _ _ rfl) (h1 _ _ rfl) (Qo.es rfl) (h2 _ _ rfl) (by decide))⟩,rfl⟩,(Qpd _ _ _ hx22)⟩ ?_
  rcases bifE h with⟨hc23,h⟩|⟨hc23,h⟩
  ·refine Qa hC [.br true,.n 13,.keep [2] [200000,200001,200002,200003,200004,200005,200006,200007,200008,200009,200010,200011,200012,200013,200014]] rfl ⟨tt_,hc23⟩ ?_
   cases h
   exact AK.done (ex_ [_] (an_ (an_ rfl tt_) (gives ⟨rfl,rfl,rfl,rfl,rfl,rfl,rfl,rfl,rfl,rfl,rfl,rfl,rfl,rfl,rfl,tt_⟩)))
  ·refine Qa hC [.br false,.n 4,.v .no [] (.i .i64 2),.n 2] rfl ⟨⟨tt_,hc23⟩,rfl⟩ ?_
   refine AK.met (AK.rnd ?_)
   obtain⟨x24,hx24,h⟩:=Qb h
   refine Qa hC [.n 2,.v .no [] (.b true),.n 10,.o (.any (.loc 200000 0 4) none),.n 1,.kill 4,.n 2,.sayO 4 (.var [.clo (.func 122) [] [.loc 200005 0 0,.loc 200001 0 0],.i .i64 v7]),.n 6,.cm (.clo) [(200000,200005),(200001,200001)] [(200005,200000),(200001,200001)] [] [.d,.d] [(200000,.var (Qe v6)),(200001,.var (Qi v1))] (.b x24),.n 3] rfl ⟨⟨⟨⟨tt_,rfl⟩,(fun σ h1 h2 _=>Stp.idxV rfl rfl (bleN hC.n rfl) (h1 _ _ rfl) (h1 _ _ rfl) (Qo.es rfl) (h2 _ _ rfl) (by decide))⟩,rfl⟩,(Qpe _ _ hx24)⟩ ?_
   rcases bifE h with⟨hc25,h⟩|⟨hc25,h⟩
   ·refine Qa hC [.br true,.n 13,.keep [2] [200000,200001,200002,200003,200004,200005,200006,200007,200008,200009,200010,200011,200012,200013,200014]] rfl ⟨tt_,hc25⟩ ?_
    cases h
    exact AK.done (ex_ [_] (an_ (an_ rfl tt_) (gives ⟨rfl,rfl,rfl,rfl,rfl,rfl,rfl,rfl,rfl,rfl,rfl,rfl,rfl,rfl,rfl,tt_⟩)))
   ·refine Qa hC [.br false,.n 4,.v .no [] (.i .i64 3),.n 2] rfl ⟨⟨tt_,hc25⟩,rfl⟩ ?_
    refine AK.met (AK.rnd ?_)
    obtain⟨x26,hx26,h⟩:=Qb h
    refine Qa hC [.n 2,.v .no [] (.b true),.n 10,.o (.any (.loc 200000 0 6) none),.n 1,.kill 4,.n 2,.sayO 4 (.var [.clo (.func 170) [] [.loc 200006 0 0,.loc 200007 0 0],.i .i64 v9]),.n 6,.cm (.clo) [(200000,200006),(200001,200002),(200002,200001),(200003,200007),(200004,200008)] [(200006,200000),(200002,200001),(200001,200002),(200007,200003),(200008,200004)] [] [.d,.d] [(200000,.var [.clo (.func 124) [] [.loc 200001 0 0,.loc 200002 0 0]]),(200001,.var (Qd v3)),(200002,.var (Qi v1)),(200003,.var [.loc 200004 0 0]),(200004,.var (Qe x26.2))] (.b x26.1),.n 3] rfl ⟨⟨⟨⟨tt_,rfl⟩,(fun σ h1 h2 _=>Stp.idxV rfl rfl (bleN hC.n rfl) (h1 _ _ rfl) (h1 _ _ rfl) (Qo.es rfl) (h2 _ _ rfl) (by decide))⟩,rfl⟩,(Qoz _ _ _ hx26)⟩ ?_
    rcases bifE h with⟨hc27,h⟩|⟨hc27,h⟩
    ·refine Qa hC [.br true,.n 13,.keep [2] [200000,200001,200002,200003,200004,200005,200006,200007,200008,200009,200010,200011,200012,200013,200014]] rfl ⟨tt_,hc27⟩ ?_
     cases h
     exact AK.done (ex_ [_] (an_ (an_ rfl tt_) (gives ⟨rfl,rfl,rfl,rfl,rfl,rfl,rfl,rfl,rfl,rfl,rfl,rfl,rfl,rfl,rfl,tt_⟩)))
    ·refine Qa hC [.br false,.n 4,.v .no [] (.i .i64 4),.n 2] rfl ⟨⟨tt_,hc27⟩,rfl⟩ ?_
     refine AK.met (AK.rnd ?_)
     obtain⟨x28,hx28,h⟩:=Qb h
     refine Qa hC [.n 2,.v .no [] (.b true),.n 10,.o (.any (.loc 200000 0 8) none),.n 1,.kill 4,.n 2,.sayO 4 (.var [.clo (.func 126) [] [.loc 200002 0 0,.loc 200003 0 0],.i .i64 v10]),.n 6,.cm (.clo) [(200000,200002),(200001,200003)] [(200002,200000),(200003,200001)] [] [.d,.d] [(200000,.var (Qd v3)),(200001,.var (Qe v4))] (.b x28),.n 3] rfl ⟨⟨⟨⟨tt_,rfl⟩,(fun σ h1 h2 _=>Stp.idxV rfl rfl (bleN hC.n rfl) (h1 _ _ rfl) (h1 _ _ rfl) (Qo.es rfl) (h2 _ _ rfl) (by decide))⟩,rfl⟩,(Qpg _ _ hx28)⟩ ?_
     rcases bifE h with⟨hc29,h⟩|⟨hc29,h⟩
     ·refine Qa hC [.br true,.n 13,.keep [2] [200000,200001,200002,200003,200004,200005,200006,200007,200008,200009,200010,200011,200012,200013,200014]] rfl ⟨tt_,hc29⟩ ?_
      cases h
      exact AK.done (ex_ [_] (an_ (an_ rfl tt_) (gives ⟨rfl,rfl,rfl,rfl,rfl,rfl,rfl,rfl,rfl,rfl,rfl,rfl,rfl,rfl,rfl,tt_⟩)))
     ·refine Qa hC [.br false,.n 4,.v .no [] (.i .i64 5),.n 2] rfl ⟨⟨tt_,hc29⟩,rfl⟩ ?_
      refine AK.met (AK.rnd ?_)
      obtain⟨x30,hx30,h⟩:=Qb h
      refine Qa hC [.n 2,.v .no [] (.b true),.n 10,.o (.any (.loc 200000 0 10) none),.n 1,.kill 4,.n 2,.sayO 4 (.var [.clo (.func 127) [] [.loc 200001 0 0,.loc 200005 0 0],.i .i64 v11]),.n 6,.cm (.clo) [(200000,200001),(200001,200005)] [(200001,200000),(200005,200001)] [] [.d,.d] [(200000,.var (Qi v1)),(200001,.var (Qe v6))] (.b x30),.n 3] rfl ⟨⟨⟨⟨tt_,rfl⟩,(fun σ h1 h2 _=>Stp.idxV rfl rfl (bleN hC.n rfl) (h1 _ _ rfl) (h1 _ _ rfl) (Qo.es rfl) (h2 _ _ rfl) (by decide))⟩,rfl⟩,(Qph _ _ hx30)⟩ ?_
      rcases bifE h with⟨hc31,h⟩|⟨hc31,h⟩
      ·refine Qa hC [.br true,.n 13,.keep [2] [200000,200001,200002,200003,200004,200005,200006,200007,200008,200009,200010,200011,200012,200013,200014]] rfl ⟨tt_,hc31⟩ ?_
       cases h
       exact AK.done (ex_ [_] (an_ (an_ rfl tt_) (gives ⟨rfl,rfl,rfl,rfl,rfl,rfl,rfl,rfl,rfl,rfl,rfl,rfl,rfl,rfl,rfl,tt_⟩)))
      ·refine Qa hC [.br false,.n 4,.v .no [] (.i .i64 6),.n 2] rfl ⟨⟨tt_,hc31⟩,rfl⟩ ?_
       refine AK.met (AK.rnd ?_)
       obtain⟨x32,hx32,h⟩:=Qb h
       refine Qa hC [.n 2,.v .no [] (.b true),.n 10,.o (.any (.loc 200000 0 12) none),.n 1,.kill 4,.n 2,.sayO 4 (.var [.clo (.func 170) [] [.loc 200009 0 0,.loc 200010 0 0],.i .i64 v12]),.n 6,.cm (.clo) [(200000,200009),(200001,200002),(200002,200001),(200003,200005),(200004,200010),(200005,200008)] [(200009,200000),(200002,200001),(200001,200002),(200005,200003),(200010,200004),(200008,200005)] [] [.d,.d] [(200000,.var [.clo (.func 129) [] [.loc 200001 0 0,.loc 200002 0 0,.loc 200003 0 0]]),(200001,.var (Qd v3)),(200002,.var (Qi v1)),(200003,.var (Qe v6)),(200004,.var [.loc 200005 0 0]),(200005,.var (Qe x32.2))] (.b x32.1),.n 3] rfl ⟨⟨⟨⟨tt_,rfl⟩,(fun σ h1 h2 _=>Stp.idxV rfl rfl (bleN hC.n rfl) (h1 _ _ rfl) (h1 _ _ rfl) (Qo.es rfl) (h2 _ _ rfl) (by decide))⟩,rfl⟩,(QmQ _ _ _ _ hx32)⟩ ?_
       rcases bifE h with⟨hc33,h⟩|⟨hc33,h⟩
       ·refine Qa hC [.br true,.n 13,.keep [2] [200000,200001,200002,200003,200004,200005,200006,200007,200008,200009,200010,200011,200012,200013,200014]] rfl ⟨tt_,hc33⟩ ?_
        cases h
        exact AK.done (ex_ [_] (an_ (an_ rfl tt_) (gives ⟨rfl,rfl,rfl,rfl,rfl,rfl,rfl,rfl,rfl,rfl,rfl,rfl,rfl,rfl,rfl,tt_⟩)))
       ·refine Qa hC [.br false,.n 4,.v .no [] (.i .i64 7),.n 2] rfl ⟨⟨tt_,hc33⟩,rfl⟩ ?_
        refine AK.met (AK.rnd ?_)
        obtain⟨x34,hx34,h⟩:=Qb h
        refine Qa hC [.n 2,.v .no [] (.b true),.n 10,.o (.any (.loc 200000 0 14) none),.n 1,.kill 4,.n 2,.sayO 4 (.var [.clo (.func 170) [] [.loc 200011 0 0,.loc 200012 0 0],.i .i64 v13]),.n 6,.cm (.clo) [(200000,200011),(200001,200002),(200002,200001),(200003,200005),(200004,200012),(200005,200008)] [(200011,200000),(200002,200001),(200001,200002),(200005,200003),(200012,200004),(200008,200005)] [] [.d,.d] [(200000,.var [.clo (.func 131) [] [.loc 200001 0 0,.loc 200002 0 0,.loc 200003 0 0]]),(200001,.var (Qd v3)),(200002,.var (Qi v1)),(200003,.var (Qe v6)),(200004,.var [.loc 200005 0 0]),(200005,.var (Qe x34.2))] (.b x34.1),.n 3] rfl ⟨⟨⟨⟨tt_,rfl⟩,(fun σ h1 h2 _=>Stp.idxV rfl rfl (bleN hC.n rfl) (h1 _ _ rfl) (h1 _ _ rfl) (Qo.es rfl) (h2 _ _ rfl) (by decide))⟩,rfl⟩,(QmR _ _ _ _ hx34)⟩ ?_
        rcases bifE h with⟨hc35,h⟩|⟨hc35,h⟩
        ·refine Qa hC [.br true,.n 13,.keep [2] [200000,200001,200002,200003,200004,200005,200006,200007,200008,200009,200010,200011,200012,200013,200014]] rfl ⟨tt_,hc35⟩ ?_
         cases h
         exact AK.done (ex_ [_] (an_ (an_ rfl tt_) (gives ⟨rfl,rfl,rfl,rfl,rfl,rfl,rfl,rfl,rfl,rfl,rfl,rfl,rfl,rfl,rfl,tt_⟩)))
        ·refine Qa hC [.br false,.n 4,.v .no [] (.i .i64 8),.n 2] rfl ⟨⟨tt_,hc35⟩,rfl⟩ ?_
         refine AK.met (AK.rnd ?_)
         obtain⟨x36,hx36,h⟩:=Qb h
         refine Qa hC [.n 2,.v .no [] (.b true),.n 10,.o (.any (.loc 200000 0 16) none),.n 1,.kill 4,.n 2,.sayO 4 (.var [.clo (.func 170) [] [.loc 200013 0 0,.loc 200014 0 0],.i .i64 v14]),.n 6,.cm (.clo) [(200000,200013),(200001,200002),(200002,200001),(200003,200014),(200004,200008)] [(200013,200000),(200002,200001),(200001,200002),(200014,200003),(200008,200004)] [] [.d,.d] [(200000,.var [.clo (.func 132) [] [.loc 200001 0 0,.loc 200002 0 0]]),(200001,.var (Qd v3)),(200002,.var (Qi v1)),(200003,.var [.loc 200004 0 0]),(200004,.var (Qe x36.2))] (.b x36.1),.n 3] rfl ⟨⟨⟨⟨tt_,rfl⟩,(fun σ h1 h2 _=>Stp.idxV rfl rfl (bleN hC.n rfl) (h1 _ _ rfl) (h1 _ _ rfl) (Qo.es rfl) (h2 _ _ rfl) (by decide))⟩,rfl⟩,(QmS _ _ _ hx36)⟩ ?_
         rcases bifE h with⟨hc37,h⟩|⟨hc37,h⟩
         ·refine Qa hC [.br true,.n 13,.keep [2] [200000,200001,200002,200003,200004,200005,200006,200007,200008,200009,200010,200011,200012,200013,200014]] rfl ⟨tt_,hc37⟩ ?_
          cases h
          exact AK.done (ex_ [_] (an_ (an_ rfl tt_) (gives ⟨rfl,rfl,rfl,rfl,rfl,rfl,rfl,rfl,rfl,rfl,rfl,rfl,rfl,rfl,rfl,tt_⟩)))
         ·refine Qa hC [.br false,.n 4,.v .no [] (.i .i64 9),.n 2] rfl ⟨⟨tt_,hc37⟩,rfl⟩ ?_
          refine AK.met (AK.rnd ?_)
          obtain⟨x38,hx38,h⟩:=Qb h
          refine Qa hC [.n 2,.v .no [] (.b true),.n 10,.o (.any (.loc 200000 0 18) none),.n 1,.kill 4,.n 2,.sayO 4 (.var [.clo (.func 134) [] [.loc 200001 0 0],.i .i64 v15]),.n 6,.cm (.clo) [(200000,200001)] [(200001,200000)] [] [.d] [(200000,.var (Qi v1))] (.b x38),.n 3] rfl ⟨⟨⟨⟨tt_,rfl⟩,(fun σ h1 h2 _=>Stp.idxV rfl rfl (bleN hC.n rfl) (h1 _ _ rfl) (h1 _ _ rfl) (Qo.es rfl) (h2 _ _ rfl) (by decide))⟩,rfl⟩,(QoC _ hx38)⟩ ?_
          rcases bifE h with⟨hc39,h⟩|⟨hc39,h⟩
          ·refine Qa hC [.br true,.n 13,.keep [2] [200000,200001,200002,200003,200004,200005,200006,200007,200008,200009,200010,200011,200012,200013,200014]] rfl ⟨tt_,hc39⟩ ?_
           cases h
           exact AK.done (ex_ [_] (an_ (an_ rfl tt_) (gives ⟨rfl,rfl,rfl,rfl,rfl,rfl,rfl,rfl,rfl,rfl,rfl,rfl,rfl,rfl,rfl,tt_⟩)))
          ·refine Qa hC [.br false,.n 4,.v .no [] (.i .i64 10),.n 2] rfl ⟨⟨tt_,hc39⟩,rfl⟩ ?_
           refine AK.met (AK.rnd ?_)
           refine Qa hC [.n 2,.v .no [] (.b false),.n 15,.keep [2] [200000,200001,200002,200003,200004,200005,200006,200007,200008,200009,200010,200011,200012,200013,200014]] rfl ⟨tt_,rfl⟩ ?_
           cases h
           exact AK.done (ex_ [_] (an_ (an_ rfl tt_) (gives ⟨rfl,rfl,rfl,rfl,rfl,rfl,rfl,rfl,rfl,rfl,rfl,rfl,rfl,rfl,rfl,tt_⟩)))
def QbQ (n1:TNet)(k2:Int):Option Int:=
 (Qbt n1.Tasks k2).bind fun x5=>
 bif (!x5)then
 some 3
 else
 (QdY n1).bind fun x7=>
 bif (x7.2 != 0)then
 some x7.2
 else
 (idx n1.Tasks k2).bind fun e9=>
 (idx n1.Tasks k2).bind fun e10=>
 (Qhj 0 n1 e9).bind fun x11=>
 (Qe2 0 n1 e9 (e10.Vars.length:Int)).bind fun x12=>
 (Qe3 0 n1 e9 (e10.Vars.length:Int)).bind fun x13=>
 (Qe4 0 n1 e9).bind fun x14=>
 (Qdu e9 1 n1 k2 5 (e10.Vars.length:Int) 2 0 (-1) 2 1 (-1) (-1) (-1) 11).bind fun x15=>
 bif (x15.1==(-1))then
 some x15.2
 else
 some x15.1
theorem Qqz (n1:TNet)(k2:Int){r:Int}(h:QbQ n1 k2=some r):Qc Tryz.prog 68 [.agg (Qd n1),.i .i64 k2] [] (Gives (.i .i64 r) []):=by
 refine Qc.walk 68 Tryz.func68 rfl Tryz.ntmps68 rfl fun C hC=>?_
 unfold QbQ at h
 obtain⟨x5,hx5,h⟩:=Qb h
 refine Qa hC [.n 13,.o (.c false [.d,.d] (.b x5)),.n 3] rfl ⟨tt_,(QhM _ _ hx5)⟩ ?_
 rcases bifE h with⟨hc6,h⟩|⟨hc6,h⟩
 ·refine Qa hC [.br true,.n 7,.keep [4] []] rfl ⟨tt_,hc6⟩ ?_
  cases h
  exact AK.done (ex_ [_] (an_ (an_ rfl tt_) (gives tt_)))
 ·obtain⟨x7,hx7,h⟩:=Qb h
  refine Qa hC [.br false,.n 5,.v .no [] (.agg (Qd n1)),.o (.c false [.d] (.tup [.i .i64 x7.1,.i .i64 x7.2])),.n 13] rfl ⟨⟨⟨tt_,hc6⟩,rfl⟩,(QkS _ hx7)⟩ ?_
  rcases bifE h with⟨hc8,h⟩|⟨hc8,h⟩
  ·refine Qa hC [.br true,.n 8,.keep [4] []] rfl ⟨tt_,hc8⟩ ?_
   cases h
   exact AK.done (ex_ [_] (an_ (an_ rfl tt_) (gives tt_)))
  ·obtain⟨e9,he9,h⟩:=Qb h
   obtain⟨e10,he10,h⟩:=Qb h
   refine Qa hC [.br false,.n 3,.keep [2,3] [2,3]] rfl ⟨tt_,hc8⟩ ?_
   refine AK.draw2 Qo hC mixed [.a .no none false,.a .no none false,.a .no none false,.a (.row (Qi e9)) none false,.a .no (some ([],.agg (Qi e9))) false,.a .no none true,.a .no none true,.a .no none true,.a (.row (Qi e10)) none true,.a .no none true,.a .no none true,.a (.ln e10.Vars.length) none true,.a .no none false,.a .no none false,.m .s,.m .s] [2,3] [2,3] [2,3,7,8] [2,3,7,8] rfl rfl rfl ⟨⟨⟨⟨tt_,(idxM he9)⟩,rfl⟩,(idxM he10)⟩,Qh⟩ rfl (by kernel_rfl) rfl rfl rfl ?_
   obtain⟨x11,hx11,h⟩:=Qb h
   obtain⟨x12,hx12,h⟩:=Qb h
   obtain⟨x13,hx13,h⟩:=Qb h
   obtain⟨x14,hx14,h⟩:=Qb h
   obtain⟨x15,hx15,h⟩:=Qb h
   refine Qa hC [.sayO 7 (.var (Qi e9)),.sayO 8 (.var (Qe (e10.Vars.length:Int))),.n 6,.sayO 9 (.var [.clo (.func 118) [] [.loc 7 0 0]]),.n 10,.v .no [] (.agg [.clo (.func 119) [] [.loc 7 0 0],.i .i64 1]),.n 1,.v .no [] (.agg [.clo (.func 120) [] [.loc 2 0 0,.loc 3 0 0,.loc 9 0 0],.i .i64 5]),.n 1,.v .no [] (.agg [.clo (.func 122) [] [.loc 8 0 0,.loc 7 0 0],.i .i64 2]),.n 1,.cm (.fn) [(200000,10),(200001,2),(200002,7)] [(45,2),(50000,3),(10,200000),(2,200001),(7,200002)] [] [.d,.d] [(2,.var [.loc 200000 0 0]),(3,.var [.clo (.func 124) [] [.loc 200001 0 0,.loc 200002 0 0]]),(200000,.var (Qe 0)),(200001,.var (Qd n1)),(200002,.var (Qi e9))] (.clo (.func 170) [] [.loc 3 0 0,.loc 2 0 0]),.v .no [] (.agg [.clo (.func 170) [] [.loc 50000 0 0,.loc 45 0 0],.i .i64 (-1)]),.n 1,.v .no [] (.agg [.clo (.func 126) [] [.loc 2 0 0,.loc 3 0 0],.i .i64 2]),.n 1,.v .no [] (.agg [.clo (.func 127) [] [.loc 7 0 0,.loc 8 0 0],.i .i64 1]),.n 1,.cm (.fn) [(200000,10),(200001,2),(200002,7),(200003,8)] [(52,2),(50001,3),(10,200000),(2,200001),(7,200002),(8,200003)] [] [.d,.d] [(2,.var [.loc 200000 0 0]),(3,.var [.clo (.func 129) [] [.loc 200001 0 0,.loc 200002 0 0,.loc 200003 0 0]]),(200000,.var (Qe 0)),(200001,.var (Qd n1)),(200002,.var (Qi e9)),(200003,.var (Qe (e10.Vars.length:Int)))] (.clo (.func 170) [] [.loc 3 0 0,.loc 2 0 0]),.v .no [] (.agg [.clo (.func 170) [] [.loc 50001 0 0,.loc 52 0 0],.i .i64 (-1)]),.n 1,.cm (.fn) [(200000,10),(200001,2),(200002,7),(200003,8)] [(55,2),(50002,3),(10,200000),(2,200001),(7,200002),(8,200003)] [] [.d,.d] [(2,.var [.loc 200000 0 0]),(3,.var [.clo (.func 131) [] [.loc 200001 0 0,.loc 200002 0 0,.loc 200003 0 0]]),(200000,.var (Qe 0)),(200001,.var (Qd n1)),(200002,.var (Qi e9)),(200003,.var (Qe (e10.Vars.length:Int)))] (.clo (.func 170) [] [.loc 3 0 0,.loc 2 0 0]),.v .no [] (.agg [.clo (.func 170) [] [.loc 50002 0 0,.loc 55 0 0],.i .i64 (-1)]),.n 1,.cm (.fn) [(200000,10),(200001,2),(200002,7)] [(58,2),(50003,3),(10,200000),(2,200001),(7,200002)] [] [.d,.d] [(2,.var [.loc 200000 0 0]),(3,.var [.clo (.func 132) [] [.loc 200001 0 0,.loc 200002 0 0]]),(200000,.var (Qe 0)),(200001,.var (Qd n1)),(200002,.var (Qi e9))] (.clo (.func 170) [] [.loc 3 0 0,.loc 2 0 0]),.v .no [] (.agg [.clo (.func 170) [] [.loc 50003 0 0,.loc 58 0 0],.i .i64 (-1)]),.n 1,.v .no [] (.agg [.clo (.func 134) [] [.loc 7 0 0],.i .i64 11]),.o (.any (.own 62 10) (some (.var [.clo (.func 119) [] [.loc 7 0 0],.i .i64 1,.clo (.func 120) [] [.loc 2 0 0,.loc 3 0 0,.loc 9 0 0],.i .i64 5,.clo (.func 122) [] [.loc 8 0 0,.loc 7 0 0],.i .i64 2,.clo (.func 170) [] [.loc 50000 0 0,.loc 45 0 0],.i .i64 (-1),.clo (.func 126) [] [.loc 2 0 0,.loc 3 0 0],.i .i64 2,.clo (.func 127) [] [.loc 7 0 0,.loc 8 0 0],.i .i64 1,.clo (.func 170) [] [.loc 50001 0 0,.loc 52 0 0],.i .i64 (-1),.clo (.func 170) [] [.loc 50002 0 0,.loc 55 0 0],.i .i64 (-1),.clo (.func 170) [] [.loc 50003 0 0,.loc 58 0 0],.i .i64 (-1),.clo (.func 134) [] [.loc 7 0 0],.i .i64 11]))),.cm (.fn) [(200000,62),(200001,7),(200002,2),(200003,3),(200004,9),(200005,8),(200006,50000),(200007,45),(200008,10),(200009,50001),(200010,52),(200011,50002),(200012,55),(200013,50003),(200014,58)] [(62,200000),(7,200001),(2,200002),(3,200003),(9,200004),(8,200005),(50000,200006),(45,200007),(10,200008),(50001,200009),(52,200010),(50002,200011),(55,200012),(50003,200013),(58,200014)] [] [.d] [(200000,.var [.clo (.func 119) [] [.loc 200001 0 0],.i .i64 1,.clo (.func 120) [] [.loc 200002 0 0,.loc 200003 0 0,.loc 200004 0 0],.i .i64 5,.clo (.func 122) [] [.loc 200005 0 0,.loc 200001 0 0],.i .i64 2,.clo (.func 170) [] [.loc 200006 0 0,.loc 200007 0 0],.i .i64 (-1),.clo (.func 126) [] [.loc 200002 0 0,.loc 200003 0 0],.i .i64 2,.clo (.func 127) [] [.loc 200001 0 0,.loc 200005 0 0],.i .i64 1,.clo (.func 170) [] [.loc 200009 0 0,.loc 200010 0 0],.i .i64 (-1),.clo (.func 170) [] [.loc 200011 0 0,.loc 200012 0 0],.i .i64 (-1),.clo (.func 170) [] [.loc 200013 0 0,.loc 200014 0 0],.i .i64 (-1),.clo (.func 134) [] [.loc 200001 0 0],.i .i64 11]),(200001,.var (Qi e9)),(200002,.var (Qd n1)),(200003,.var (Qe k2)),(200004,.var [.clo (.func 118) [] [.loc 200001 0 0]]),(200005,.var (Qe (e10.Vars.length:Int))),(200006,.var [.clo (.func 124) [] [.loc 200002 0 0,.loc 200001 0 0]]),(200007,.var [.loc 200008 0 0]),(200008,.var (Qe x15.2)),(200009,.var [.clo (.func 129) [] [.loc 200002 0 0,.loc 200001 0 0,.loc 200005 0 0]]),(200010,.var [.loc 200008 0 0]),(200011,.var [.clo (.func 131) [] [.loc 200002 0 0,.loc 200001 0 0,.loc 200005 0 0]]),(200012,.var [.loc 200008 0 0]),(200013,.var [.clo (.func 132) [] [.loc 200002 0 0,.loc 200001 0 0]]),(200014,.var [.loc 200008 0 0])] (.i .i64 x15.1),.n 10] rfl ⟨⟨⟨⟨⟨⟨⟨⟨⟨⟨⟨⟨⟨⟨⟨⟨⟨⟨⟨tt_,rfl⟩,rfl⟩,rfl⟩,rfl⟩,rfl⟩,rfl⟩,(QpT _ _ _ hx11)⟩,rfl⟩,rfl⟩,rfl⟩,(QnQ _ _ _ _ hx12)⟩,rfl⟩,(QnR _ _ _ _ hx13)⟩,rfl⟩,(QnS _ _ _ hx14)⟩,rfl⟩,rfl⟩,(fun σ h1 h2 hf=>Stp.buildAny rfl rfl (bleN hC.n rfl) (Qo.es rfl) QkP rfl (by decide) (by decide) (QeK h1 rfl) rfl rfl (hf rfl))⟩,(QnZ _ _ _ _ _ _ _ _ _ _ _ _ _ _ _ hx15)⟩ ?_
   rcases bifE h with⟨hc16,h⟩|⟨hc16,h⟩
   ·refine Qa hC [.br true,.n 8,.keep [4] []] rfl ⟨tt_,hc16⟩ ?_
    cases h
    exact AK.done (ex_ [_] (an_ (an_ rfl tt_) (gives tt_)))
   ·refine Qa hC [.br false,.n 9,.keep [4] []] rfl ⟨tt_,hc16⟩ ?_
    cases h
    exact AK.done (ex_ [_] (an_ (an_ rfl tt_) (gives tt_)))
def Qfx (k1:Int)(p2:Qr)(v3:TNet):Option Int:=
 (QbQ v3 k1).bind fun x5=>
 some x5
theorem QpV (k1:Int)(p2:Qr)(v3:TNet){r:Int}(h:Qfx k1 p2 v3=some r):Qc Tryz.prog 67 [.i .i64 k1,.agg (Qi p2),.loc 200000 0 0] [(200000,.var (Qd v3))] (Gives (.i .i64 r) [(200000,.var (Qd v3))]):=by
 refine Qc.walk 9 Tryz.func67 rfl Tryz.ntmps67 rfl fun C hC=>?_
 unfold Qfx at h
 obtain⟨x5,hx5,h⟩:=Qb h
 refine Qa hC [.n 8,.v .no [] (.agg (Qd v3)),.n 1,.o (.c false [.d,.d] (.i .i64 x5)),.n 4,.keep [5] [200000]] rfl ⟨⟨tt_,rfl⟩,(Qqz _ _ hx5)⟩ ?_
 cases h
 exact AK.done (ex_ [_] (an_ (an_ rfl tt_) (gives ⟨rfl,tt_⟩)))
def Qao (l1:(List Qr))(v2:TNet)(x7:Int):Option (Int⊕((Int×Int)⊕Unit)):=
 bif (decide (x7<(l1.length:Int)))then
 (idx l1 x7).bind fun e12=>
 (Qfx x7 e12 v2).bind fun x13=>
 bif (x13 != 0)then
 some (.inr (.inl (x7,x13)))
 else
 some (.inl (w64 (x7+1)))
 else
 some (.inr (.inr ()))
def QbR (x9:Int)(x10:Int):Option (Int×Int):=
 some (x9,x10)
def QbS : Option (Int×Int):=
 some (0,0)
def Qbc (l1:(List Qr))(v2:TNet):Option (Int×Int):=
 (QE (fun st=>Qao l1 v2 st) 0).bind (Sum.elim (fun q=>QbR q.1 q.2) (fun q=>QbS))
theorem QlY (l1:(List Qr))(v2:TNet){r:(Int×Int)}(h:Qbc l1 v2=some r):Qc Tryz.prog 66 [.sl 14 (l1.map Qi),.clo (.func 67) [] [.loc 200000 0 0]] [(200000,.var (Qd v2))] (Gives (.tup [.i .i64 r.1,.i .i64 r.2]) [(200000,.var (Qd v2))]):=by
 refine Qc.walk 25 Tryz.func66 rfl Tryz.ntmps66 rfl fun C hC=>?_
 unfold Qbc at h
 refine Qa hC [.n 10,.o (.ln l1.length),.n 4,.keep [1,9,10,11] [200000]] rfl ⟨tt_,Qh⟩ ?_
 obtain⟨o15,hl15,h⟩:=Qb h
 refine AK.loop (body:=(fun st=>Qao l1 v2 st)) (fun st σ=>σ=⟨[(1,.clo (.func 67) [] [.loc 200000 0 0]),(9,.sl 14 (l1.map Qi)),(10,.i .i64 (l1.length:Int)),(11,.i .i64 st)],[(200000,.var (Qd v2))]⟩) (Sum.elim (fun q e σ=>e=.ret∧σ=⟨[(4,.i .i64 q.1),(5,.i .i64 q.2)],[(200000,.var (Qd v2))]⟩) (fun q e σ=>e=.exit 0∧σ=⟨[],[(200000,.var (Qd v2))]⟩)) hl15 rfl ?_ ?_
 ·rintro x7 o σ rfl h
  replace h:Qao l1 v2 x7=some o:=h
  unfold Qao at h
  refine Qa hC [.n 6] rfl tt_ ?_
  rcases bifE h with⟨hc11,h⟩|⟨hc11,h⟩
  ·obtain⟨e12,he12,h⟩:=Qb h
   obtain⟨x13,hx13,h⟩:=Qb h
   refine Qa hC [.br true,.n 7,.o (.row (Qi e12)),.v .no [] (.agg (Qi e12)),.n 3,.sayO 7 (.var (Qi e12)),.n 6,.v .no [] (.agg (Qi e12)),.cm (.clo) [(200000,200000)] [(200000,200000)] [] [.d,.d,.d] [(200000,.var (Qd v2))] (.i .i64 x13),.n 9] rfl ⟨⟨⟨⟨⟨⟨tt_,hc11⟩,(idxM he12)⟩,rfl⟩,rfl⟩,rfl⟩,(QpV _ _ _ hx13)⟩ ?_
   rcases bifE h with⟨hc14,h⟩|⟨hc14,h⟩
   ·refine Qa hC [.br true,.n 11,.keep [4,5] [200000]] rfl ⟨tt_,hc14⟩ ?_
    cases h
    exact rndR rfl (an_ rfl rfl)
   ·refine Qa hC [.br false,.n 7,.keep [1,9,10,11] [200000]] rfl ⟨tt_,hc14⟩ ?_
    cases h
    exact rndN rfl rfl
  ·refine Qa hC [.br false,.n 2,.keep [] [200000]] rfl ⟨tt_,hc11⟩ ?_
   cases h
   exact rndX rfl (an_ rfl rfl)
 ·rcases o15 with(⟨x9,x10⟩|_)
  ·replace h:QbR x9 x10=some r:=h
   unfold QbR at h
   rintro e σ ⟨rfl,rfl⟩
   refine Qa hC [.n 2,.keep [4,5] [200000]] rfl tt_ ?_
   cases h
   exact AK.done (ex_ [_,_] (an_ (an_ rfl (an_ rfl tt_)) (gives ⟨rfl,tt_⟩)))
  ·replace h:QbS=some r:=h
   unfold QbS at h
   rintro e σ ⟨rfl,rfl⟩
   refine Qa hC [.n 9,.keep [4,5] [200000]] rfl tt_ ?_
   cases h
   exact AK.done (ex_ [_,_] (an_ (an_ rfl (an_ rfl tt_)) (gives ⟨rfl,tt_⟩)))
def Qf8 (n1:TNet):Option (Int×QdO):=
 (Qhg n1 2 3 1).bind fun x6=>
 bif (x6 != 0)then
 some (x6,(QdO.mk 1 0))
 else
 (QdY n1).bind fun x8=>
 bif (x8.2 != 0)then
 some (x8.2,(QdO.mk 2 x8.1))
 else
 (Qcm n1.Places n1).bind fun x10=>
 bif (x10.2 != 0)then
 some (x10.2,(QdO.mk 3 x10.1))
 else
 (Qbc n1.Tasks n1).bind fun x12=>
 bif (x12.2 != 0)then
 some (x12.2,(QdO.mk 4 x12.1))
 else
 some (0,(QdO.mk 0 0))
theorem Qq9 (n1:TNet){r:(Int×QdO)}(h:Qf8 n1=some r):Qc Tryz.prog 32 [.agg (Qd n1)] [] (Gives (.tup [.agg (Qcz r.2),.i .i64 r.1]) []):=by
 refine Qc.walk 58 Tryz.func32 rfl Tryz.ntmps32 rfl fun C hC=>?_
 unfold Qf8 at h
 obtain⟨x6,hx6,h⟩:=Qb h
 refine Qa hC [.n 10,.v .no [] (.agg [.clo (.func 58) [] [.loc 1 0 0],.i .i64 2]),.n 1,.v .no [] (.agg [.clo (.func 59) [] [.loc 1 0 0],.i .i64 3]),.n 1,.v .no [] (.agg [.clo (.func 61) [] [.loc 1 0 0],.i .i64 1]),.o (.any (.own 17 3) (some (.var [.clo (.func 58) [] [.loc 1 0 0],.i .i64 2,.clo (.func 59) [] [.loc 1 0 0],.i .i64 3,.clo (.func 61) [] [.loc 1 0 0],.i .i64 1]))),.cm (.fn) [(200000,17),(200001,1)] [(17,200000),(1,200001)] [] [.d] [(200000,.var [.clo (.func 58) [] [.loc 200001 0 0],.i .i64 2,.clo (.func 59) [] [.loc 200001 0 0],.i .i64 3,.clo (.func 61) [] [.loc 200001 0 0],.i .i64 1]),(200001,.var (Qd n1))] (.i .i64 x6),.n 10] rfl ⟨⟨⟨⟨⟨tt_,rfl⟩,rfl⟩,rfl⟩,(fun σ h1 h2 hf=>Stp.buildAny rfl rfl (bleN hC.n rfl) (Qo.es rfl) QkP rfl (by decide) (by decide) (QeK h1 rfl) rfl rfl (hf rfl))⟩,(QpP _ _ _ _ hx6)⟩ ?_
 rcases bifE h with⟨hc7,h⟩|⟨hc7,h⟩
 ·refine Qa hC [.br true,.n 2,.v .no [] (.agg (Qcz (QdO.mk 1 0))),.n 2,.sayO 2 (.var (Qcz (QdO.mk 1 0))),.n 5,.keep [2,3] [2]] rfl ⟨⟨⟨tt_,hc7⟩,rfl⟩,rfl⟩ ?_
  cases h
  exact AK.done (ex_ [_,_] (an_ (an_ (ex_ _ (ex_ _ (an_ rfl (an_ rfl (Or.inl (an_ (Qo.ag rfl) (an_ (Qo.sz rfl) rfl))))))) (an_ rfl tt_)) (gives tt_)))
 ·obtain⟨x8,hx8,h⟩:=Qb h
  refine Qa hC [.br false,.n 5,.v .no [] (.agg (Qd n1)),.o (.c false [.d] (.tup [.i .i64 x8.1,.i .i64 x8.2])),.n 13] rfl ⟨⟨⟨tt_,hc7⟩,rfl⟩,(QkS _ hx8)⟩ ?_
  rcases bifE h with⟨hc9,h⟩|⟨hc9,h⟩
  ·refine Qa hC [.br true,.n 3,.v .no [] (.agg (Qcz (QdO.mk 2 x8.1))),.n 2,.sayO 2 (.var (Qcz (QdO.mk 2 x8.1))),.n 5,.keep [2,3] [2]] rfl ⟨⟨⟨tt_,hc9⟩,rfl⟩,rfl⟩ ?_
   cases h
   exact AK.done (ex_ [_,_] (an_ (an_ (ex_ _ (ex_ _ (an_ rfl (an_ rfl (Or.inl (an_ (Qo.ag rfl) (an_ (Qo.sz rfl) rfl))))))) (an_ rfl tt_)) (gives tt_)))
  ·obtain⟨x10,hx10,h⟩:=Qb h
   refine Qa hC [.br false,.n 8,.cm (.fn) [(200000,1)] [(1,200000)] [] [.d,.d] [(200000,.var (Qd n1))] (.tup [.i .i64 x10.1,.i .i64 x10.2]),.n 13] rfl ⟨⟨tt_,hc9⟩,(Qlr _ _ hx10)⟩ ?_
   rcases bifE h with⟨hc11,h⟩|⟨hc11,h⟩
   ·refine Qa hC [.br true,.n 3,.v .no [] (.agg (Qcz (QdO.mk 3 x10.1))),.n 2,.sayO 2 (.var (Qcz (QdO.mk 3 x10.1))),.n 5,.keep [2,3] [2]] rfl ⟨⟨⟨tt_,hc11⟩,rfl⟩,rfl⟩ ?_
    cases h
    exact AK.done (ex_ [_,_] (an_ (an_ (ex_ _ (ex_ _ (an_ rfl (an_ rfl (Or.inl (an_ (Qo.ag rfl) (an_ (Qo.sz rfl) rfl))))))) (an_ rfl tt_)) (gives tt_)))
   ·obtain⟨x12,hx12,h⟩:=Qb h
    refine Qa hC [.br false,.n 8,.cm (.fn) [(200000,1)] [(1,200000)] [] [.d,.d] [(200000,.var (Qd n1))] (.tup [.i .i64 x12.1,.i .i64 x12.2]),.n 13] rfl ⟨⟨tt_,hc11⟩,(QlY _ _ hx12)⟩ ?_
    rcases bifE h with⟨hc13,h⟩|⟨hc13,h⟩
    ·refine Qa hC [.br true,.n 3,.v .no [] (.agg (Qcz (QdO.mk 4 x12.1))),.n 2,.sayO 2 (.var (Qcz (QdO.mk 4 x12.1))),.n 5,.keep [2,3] [2]] rfl ⟨⟨⟨tt_,hc13⟩,rfl⟩,rfl⟩ ?_
     cases h
     exact AK.done (ex_ [_,_] (an_ (an_ (ex_ _ (ex_ _ (an_ rfl (an_ rfl (Or.inl (an_ (Qo.ag rfl) (an_ (Qo.sz rfl) rfl))))))) (an_ rfl tt_)) (gives tt_)))
    ·refine Qa hC [.br false,.n 4,.v .no [] (.agg (Qcz (QdO.mk 0 0))),.n 1,.sayO 2 (.var (Qcz (QdO.mk 0 0))),.n 4,.keep [2,3] [2]] rfl ⟨⟨⟨tt_,hc13⟩,rfl⟩,rfl⟩ ?_
     cases h
     exact AK.done (ex_ [_,_] (an_ (an_ (ex_ _ (ex_ _ (an_ rfl (an_ rfl (Or.inl (an_ (Qo.ag rfl) (an_ (Qo.sz rfl) rfl))))))) (an_ rfl tt_)) (gives tt_)))
def QhN (e9:(List (Int×Int)))(x11:Int):Option Bool:=
 (Qcg e9).bind fun x14=>
 bif (!x14)then
 some true
 else
 bif (decide (0<(e9.length:Int)))then
 (idx e9 (w64 ((e9.length:Int)-1))).bind fun e17=>
 some (decide (x11≤e17.1))
 else
 some false
def Qd0 (x6:Int)(x12:Bool):Option (Int⊕(Unit⊕Unit)):=
 bif x12 then
 some (.inr (.inl ()))
 else
 some (.inl (w64 (x6+1)))
def QbE (m2:(List (List (Int×Int))))(n1:TNet)(x6:Int):Option (Int⊕(Unit⊕Unit)):=
 bif (decide (x6<(m2.length:Int)))then
 (idx m2 x6).bind fun e9=>
 (idx n1.Places x6).bind fun e10=>
 (Qa1 n1.Colours e10.Colour).bind fun x11=>
 (QhN e9 x11).bind (fun x12=>Qd0 x6 x12)
 else
 some (.inr (.inr ()))
def Qj9 : Option Bool:=
 some false
def Qka : Option Bool:=
 some true
def QbT (n1:TNet)(m2:(List (List (Int×Int)))):Option Bool:=
 bif ((m2.length:Int) != (n1.Places.length:Int))then
 some false
 else
 (QE (fun st=>QbE m2 n1 st) 0).bind (Sum.elim (fun q=>Qj9) (fun q=>Qka))
theorem Qkb (n1:TNet)(m2:(List (List (Int×Int)))){r:Bool}(h:QbT n1 m2=some r):Qc Tryz.prog 27 [.agg (Qd n1),.sl 1 (m2.map Qg)] [] (Gives (.b r) []):=by
 refine Qc.walk 50 Tryz.func27 rfl Tryz.ntmps27 rfl fun C hC=>?_
 unfold QbT at h
 refine Qa hC [.n 10,.o (.ln m2.length),.n 2,.o (.ln n1.Places.length),.n 3] rfl ⟨⟨tt_,Qh⟩,Qh⟩ ?_
 rcases bifE h with⟨hc5,h⟩|⟨hc5,h⟩
 ·refine Qa hC [.br true,.n 7,.keep [4] []] rfl ⟨tt_,hc5⟩ ?_
  cases h
  exact AK.done (ex_ [_] (an_ (an_ rfl tt_) (gives tt_)))
 ·refine Qa hC [.br false,.n 6,.o (.ln m2.length),.n 4,.keep [2,14,15,16] [2]] rfl ⟨⟨tt_,hc5⟩,Qh⟩ ?_
  obtain⟨o19,hl19,h⟩:=Qb h
  refine AK.loop (body:=(fun st=>QbE m2 n1 st)) (fun st σ=>σ=⟨[(2,.loc 2 0 0),(14,.sl 1 (m2.map Qg)),(15,.i .i64 (m2.length:Int)),(16,.i .i64 st)],[(2,.var (Qd n1))]⟩) (Sum.elim (fun q e σ=>e=.ret∧σ=⟨[(4,.b false)],[]⟩) (fun q e σ=>e=.exit 0∧σ=⟨[],[]⟩)) hl19 rfl ?_ ?_
  ·rintro x6 o σ rfl h
   replace h:QbE m2 n1 x6=some o:=h
   unfold QbE at h
   refine Qa hC [.n 6] rfl tt_ ?_
   rcases bifE h with⟨hc8,h⟩|⟨hc8,h⟩
   ·obtain⟨e9,he9,h⟩:=Qb h
    obtain⟨e10,he10,h⟩:=Qb h
    obtain⟨x11,hx11,h⟩:=Qb h
    refine Qa hC [.br true,.n 7,.o (.row (Qg e9)),.n 6,.keep [2,5,6,14,15,16] [2]] rfl ⟨⟨tt_,hc8⟩,(idxM he9)⟩ ?_
    refine AK.draw2 Qo hC mixed [.a .no none false,.a .no none false,.a .no none false,.a .no none false,.a .no none false,.a (.row (Qs e10)) none false,.a .no none false,.a .no none false,.a (.c false [.d,.d] (.i .i64 x11)) none false,.a .no none false] [] [] [2,6,7,14,15,16] [2] rfl rfl rfl ⟨⟨tt_,(idxM he10)⟩,(QgX _ _ hx11)⟩ rfl (by kernel_rfl) rfl rfl rfl ?_
    refine Qa hC [.n 2] rfl tt_ ?_
    obtain⟨x12,hv13,h⟩:=Qb h
    replace h:Qd0 x6 x12=some o:=h
    refine AK.meetX (fun σ=>σ=⟨[(2,.loc 2 0 0),(14,.sl 1 (m2.map Qg)),(15,.i .i64 (m2.length:Int)),(16,.i .i64 x6),(48,.b x12)],[(2,.var (Qd n1))]⟩) ?_ ?_
    ·replace h:=hv13
     unfold QhN at h
     obtain⟨x14,hx14,h⟩:=Qb h
     refine Qa hC [.n 2,.o (.c false [.d] (.b x14)),.n 2] rfl ⟨tt_,(Qgs _ hx14)⟩ ?_
     rcases bifE h with⟨hc15,h⟩|⟨hc15,h⟩
     ·refine Qa hC [.say 33 (.b true),.n 16,.keep [2,14,15,16,48] [2]] rfl ⟨tt_,(congrArg V.b hc15)⟩ ?_
      cases h
      exact AK.met rfl
     ·refine Qa hC [.say 33 (.b false),.n 1,.o (.ln e9.length),.n 2] rfl ⟨⟨tt_,(congrArg V.b hc15)⟩,Qh⟩ ?_
      rcases bifE h with⟨hc16,h⟩|⟨hc16,h⟩
      ·obtain⟨e17,he17,h⟩:=Qb h
       refine Qa hC [.say 37 (.b true),.n 2,.o (.ln e9.length),.n 1,.o (.row (Qt e17)),.n 7,.keep [2,14,15,16,48] [2]] rfl ⟨⟨⟨tt_,(congrArg V.b hc16)⟩,Qh⟩,(idxM he17)⟩ ?_
       cases h
       exact AK.met rfl
      ·refine Qa hC [.say 37 (.b false),.n 12,.keep [2,14,15,16,48] [2]] rfl ⟨tt_,(congrArg V.b hc16)⟩ ?_
       cases h
       exact AK.met rfl
    ·rintro σ rfl
     replace h:Qd0 x6 x12=some o:=h
     unfold Qd0 at h
     refine Qa hC [.n 1] rfl tt_ ?_
     rcases bifE h with⟨hc18,h⟩|⟨hc18,h⟩
     ·refine Qa hC [.br true,.n 8,.keep [4] []] rfl ⟨tt_,hc18⟩ ?_
      cases h
      exact rndR rfl (an_ rfl rfl)
     ·refine Qa hC [.br false,.n 7,.keep [2,14,15,16] [2]] rfl ⟨tt_,hc18⟩ ?_
      cases h
      exact rndN rfl rfl
   ·refine Qa hC [.br false,.n 2,.keep [] []] rfl ⟨tt_,hc8⟩ ?_
    cases h
    exact rndX rfl (an_ rfl rfl)
  ·rcases o19 with(_ | _)
   ·replace h:Qj9=some r:=h
    unfold Qj9 at h
    rintro e σ ⟨rfl,rfl⟩
    refine Qa hC [.n 2,.keep [4] []] rfl tt_ ?_
    cases h
    exact AK.done (ex_ [_] (an_ (an_ rfl tt_) (gives tt_)))
   ·replace h:Qka=some r:=h
    unfold Qka at h
    rintro e σ ⟨rfl,rfl⟩
    refine Qa hC [.n 8,.keep [4] []] rfl tt_ ?_
    cases h
    exact AK.done (ex_ [_] (an_ (an_ rfl tt_) (gives tt_)))
def Qkc (x11:(Int×QdO))(n1:TNet)(m2:(List (List (Int×Int)))):Option Bool:=
 bif (x11.1 != 0)then
 some true
 else
 (QbT n1 m2).bind fun x15=>
 some (!x15)
def Qd1 (n1:TNet)(work17:Int)(k18:Int):Option ((Int×Int)⊕Int):=
 bif (decide (k18<(n1.Tasks.length:Int)))then
 (idx n1.Tasks k18).bind fun e23=>
 (Qfw n1 k18).bind fun x24=>
 some (.inl ((w64 (work17+(w64 (x24*(w64 (1+(w64 ((e23.Ins.length:Int)*(e23.Outs.length:Int))))))))),(w64 (k18+1))))
 else
 some (.inr work17)
def Qkd (work21:Int):Option Bool:=
 some (decide (work21≤600))
def QfU (n1:TNet)(x12:Bool):Option Bool:=
 bif x12 then
 some false
 else
 (QE (fun st=>Qd1 n1 st.1 st.2) (0,0)).bind (fun q=>Qkd q)
def Qic (n1:TNet)(m2:(List (List (Int×Int)))):Option Bool:=
 (QiU n1).bind fun x5=>
 (QiV m2).bind fun x6=>
 bif ((!x5)||((!x6)||(decide (12<(n1.Tasks.length:Int)))))then
 some false
 else
 (Qf8 n1).bind fun x11=>
 (Qkc x11 n1 m2).bind (fun x12=>QfU n1 x12)
theorem QqA (n1:TNet)(m2:(List (List (Int×Int)))){r:Bool}(h:Qic n1 m2=some r):Qc Tryz.prog 9 [.agg (Qd n1),.sl 1 (m2.map Qg)] [] (Gives (.b r) []):=by
 refine Qc.walk 69 Tryz.func9 rfl Tryz.ntmps9 rfl fun C hC=>?_
 unfold Qic at h
 obtain⟨x5,hx5,h⟩:=Qb h
 obtain⟨x6,hx6,h⟩:=Qb h
 refine Qa hC [.n 8,.v .no [] (.agg (Qd n1)),.o (.c false [.d] (.b x5)),.n 6,.o (.c false [.d] (.b x6)),.n 5] rfl ⟨⟨⟨tt_,rfl⟩,(Qq7 _ hx5)⟩,(Qq8 _ hx6)⟩ ?_
 refine AK.meetX (fun σ=>σ=⟨[(1,.sl 1 (m2.map Qg)),(2,.loc 2 0 0),(27,.b ((!x5)||((!x6)||(decide (12<(n1.Tasks.length:Int))))))],[(2,.var (Qd n1))]⟩) ?_ ?_
 ·refine Qa hC [.n 4] rfl tt_ ?_
  rcases QK (!x5)with hc8 | hc8
  ·refine Qa hC [.say 18 (.b true),.n 10,.say 27 (.b ((!x5)||((!x6)||(decide (12<(n1.Tasks.length:Int)))))),.keep [1,2,27] [2]] rfl ⟨⟨tt_,(congrArg V.b hc8)⟩,(congrArg V.b (orT hc8 rfl))⟩ ?_
   exact AK.met rfl
  ·refine Qa hC [.say 18 (.b false),.n 4] rfl ⟨tt_,(congrArg V.b hc8)⟩ ?_
   rcases QK (!x6)with hc9 | hc9
   ·refine Qa hC [.say 22 (.b true),.n 6,.say 27 (.b ((!x5)||((!x6)||(decide (12<(n1.Tasks.length:Int)))))),.keep [1,2,27] [2]] rfl ⟨⟨tt_,(congrArg V.b hc9)⟩,(congrArg V.b (orF hc8 (orT hc9 rfl)))⟩ ?_
    exact AK.met rfl
   ·refine Qa hC [.say 22 (.b false),.n 2,.o (.ln n1.Tasks.length),.n 3,.say 27 (.b ((!x5)||((!x6)||(decide (12<(n1.Tasks.length:Int)))))),.keep [1,2,27] [2]] rfl ⟨⟨⟨tt_,(congrArg V.b hc9)⟩,Qh⟩,(congrArg V.b (orF hc8 (orF hc9 rfl)))⟩ ?_
    exact AK.met rfl
 ·rintro σ rfl
  refine Qa hC [.n 1] rfl tt_ ?_
  rcases bifE h with⟨hc10,h⟩|⟨hc10,h⟩
  ·refine Qa hC [.br true,.n 7,.keep [4] []] rfl ⟨tt_,hc10⟩ ?_
   cases h
   exact AK.done (ex_ [_] (an_ (an_ rfl tt_) (gives tt_)))
  ·obtain⟨x11,hx11,h⟩:=Qb h
   refine Qa hC [.br false,.n 4,.v .no [] (.agg (Qd n1)),.o (.c false [.d] (.tup [.agg (Qcz x11.2),.i .i64 x11.1])),.n 5,.sayO 7 (.var (Qcz x11.2)),.n 5] rfl ⟨⟨⟨⟨tt_,hc10⟩,rfl⟩,(Qq9 _ hx11)⟩,rfl⟩ ?_
   obtain⟨x12,hv13,h⟩:=Qb h
   replace h:QfU n1 x12=some r:=h
   refine AK.meetX (fun σ=>σ=⟨[(2,.loc 2 0 0),(40,.b x12)],[(2,.var (Qd n1))]⟩) ?_ ?_
   ·replace h:=hv13
    unfold Qkc at h
    refine Qa hC [.n 4] rfl tt_ ?_
    rcases bifE h with⟨hc14,h⟩|⟨hc14,h⟩
    ·refine Qa hC [.say 35 (.b true),.n 6,.keep [2,40] [2]] rfl ⟨tt_,(congrArg V.b hc14)⟩ ?_
     cases h
     exact AK.met rfl
    ·obtain⟨x15,hx15,h⟩:=Qb h
     refine Qa hC [.say 35 (.b false),.v .no [] (.agg (Qd n1)),.n 1,.o (.c false [.d,.d] (.b x15)),.n 3,.keep [2,40] [2]] rfl ⟨⟨⟨tt_,(congrArg V.b hc14)⟩,rfl⟩,(Qkb _ _ hx15)⟩ ?_
     cases h
     exact AK.met rfl
   ·rintro σ rfl
    replace h:QfU n1 x12=some r:=h
    unfold QfU at h
    refine Qa hC [.n 1] rfl tt_ ?_
    rcases bifE h with⟨hc16,h⟩|⟨hc16,h⟩
    ·refine Qa hC [.br true,.n 7,.keep [4] []] rfl ⟨tt_,hc16⟩ ?_
     cases h
     exact AK.done (ex_ [_] (an_ (an_ rfl tt_) (gives tt_)))
    ·refine Qa hC [.br false,.n 14,.keep [2,9,10] [2]] rfl ⟨tt_,hc16⟩ ?_
     obtain⟨work21,hl25,h⟩:=Qb h
     refine AK.loop (body:=(fun st=>Qd1 n1 st.1 st.2)) (fun st σ=>σ=⟨[(2,.loc 2 0 0),(9,.i .i64 st.1),(10,.i .i64 st.2)],[(2,.var (Qd n1))]⟩) (fun q e σ=>e=.exit 0∧σ=⟨[(9,.i .i64 q)],[]⟩) hl25 rfl ?_ ?_
     ·rintro ⟨work17,k18⟩ o σ rfl h
      replace h:Qd1 n1 work17 k18=some o:=h
      unfold Qd1 at h
      refine Qa hC [.n 6,.o (.ln n1.Tasks.length),.n 3] rfl ⟨tt_,Qh⟩ ?_
      rcases bifE h with⟨hc22,h⟩|⟨hc22,h⟩
      ·obtain⟨e23,he23,h⟩:=Qb h
       obtain⟨x24,hx24,h⟩:=Qb h
       refine Qa hC [.br true,.n 9,.o (.row (Qi e23)),.v .no [] (.agg (Qi e23)),.n 2,.sayO 11 (.var (Qi e23)),.n 2,.keep [2,9,10,11] [2,11]] rfl ⟨⟨⟨⟨tt_,hc22⟩,(idxM he23)⟩,rfl⟩,rfl⟩ ?_
       refine AK.draw2 Qo hC mixed [.a .no none false,.a .no (some ([],.agg (Qd n1))) false,.a .no none false,.a (.c false [.d,.d] (.i .i64 x24)) none false,.a .no none false,.a .no none false,.a (.ln e23.Ins.length) none false,.a .no none false,.a .no none false,.a (.ln e23.Outs.length) none false,.a .no none false,.a .no none false,.a .no none false,.a .no none false,.m .s] [] [] [2,9,10] [2] rfl rfl rfl ⟨⟨⟨⟨tt_,rfl⟩,(QlX _ _ hx24)⟩,Qh⟩,Qh⟩ rfl (by kernel_rfl) rfl rfl rfl ?_
       refine Qa hC [.n 7,.keep [2,9,10] [2]] rfl tt_ ?_
       cases h
       exact rndN rfl rfl
      ·refine Qa hC [.br false,.n 2,.keep [9] []] rfl ⟨tt_,hc22⟩ ?_
       cases h
       exact rndX rfl (an_ rfl rfl)
     ·replace h:Qkd work21=some r:=h
      unfold Qkd at h
      rintro e σ ⟨rfl,rfl⟩
      refine Qa hC [.n 10,.keep [4] []] rfl tt_ ?_
      cases h
      exact AK.done (ex_ [_] (an_ (an_ rfl tt_) (gives tt_)))
def QkF (a5:Unit):Option Int:=
 some 0
def QcJ (n9:Int)(k11:Int)(v12:Int):Option (Int⊕Empty):=
 some (.inl (w64 (n9+v12)))
def QkG (n9:Int):Option Int:=
 some n9
def QgJ (a6:(List (Int×Int))):Option Int:=
 (Qg9 (fun st p=>QcJ st p.1 p.2) 0 a6).bind (Sum.elim (fun q=>QkG q) (fun q=>Empty.elim q))
def QiW (b1:(List (Int×Int))):Option Int:=
 (Qh5 b1).bind (Sum.elim (fun q=>QkF q) (fun q=>QgJ q))
theorem Qra (b1:(List (Int×Int))){r:Int}(h:QiW b1=some r):Qc Tryz.prog 55 [.sl 2 (b1.map Qt)] [] (Gives (.i .i64 r) []):=by
 refine Qc.walk 23 Tryz.func55 rfl Tryz.ntmps55 rfl fun C hC=>?_
 unfold QiW at h
 obtain⟨x4,hx4,h⟩:=Qb h
 refine Qa hC [.n 8] rfl tt_ ?_
 rcases x4 with(a5 | a6)
 ·replace h:QkF a5=some r:=h
  unfold QkF at h
  refine Qa hC [.cm (.fn) [] [] [] [.d] [] (.tup [.lit (.map none),.b false]),.n 16,.x (fun σ=>(σ.set 14 .itr0).put 14 (.loc 14 0 0)),.n 3] rfl ⟨⟨tt_,(Qev _ hx4)⟩,(Stp.range0 rfl rfl (bleN hC.n rfl) rfl Qfz rfl)⟩ ?_
  refine AK.loopOnce ?_
  refine Qa hC [.n 2,.x (fun σ=>σ.put 15 (.tup [.b false])),.n 17,.keep [2] []] rfl ⟨tt_,(Stp.next0 rfl rfl (bleN hC.n rfl) rfl rfl)⟩ ?_
  cases h
  exact AK.done (ex_ [_] (an_ (an_ rfl tt_) (gives tt_)))
 ·replace h:QgJ a6=some r:=h
  unfold QgJ at h
  refine Qa hC [.cm (.fn) [] [(10,30002)] [] [.d] [(30002,.map (mapV (V.i .i64) (V.i .i64) a6))] (.tup [.map 30002,.b true]),.n 16] rfl ⟨tt_,(Qev _ hx4)⟩ ?_
  refine AK.openMap (b:=10) ky_3 rfl fun bm7 cl7 L7 hbn7 hpm7=>?_
  refine Qa hC [.x (fun σ=>(σ.set 14 (.itr bm7 cl7 #[] none)).put 14 (.loc 14 0 0)),.n 3,.keep [5,14] [10,14]] rfl ⟨tt_,(Stp.range (b:=10) rfl rfl (bleN hC.n rfl) rfl rfl Qfz rfl)⟩ ?_
  obtain⟨o13,hl13,h⟩:=Qb h
  refine AK.range (body:=(fun st p=>QcJ st p.1 p.2)) (fun st seen σ=>∃cur:Option MapEntry,σ=⟨[(5,.i .i64 st),(14,.loc 14 0 0)],[(10,.mapX bm7 cl7 (typV (V.i .i64) (V.i .i64) L7) (mapV (V.i .i64) (V.i .i64) a6)),(14,.itr bm7 cl7 seen cur)]⟩) (fun (q:Empty) _ _=>False) (fun st e σ=>e=.exit 0∧σ=⟨[(5,.i .i64 st)],[]⟩) hbn7 hpm7 hl13 (ex_ _ rfl) ?_ ?_
  ·rintro n9 seen σ ⟨cur,rfl⟩ hex
   refine Qa hC [.n 2] rfl tt_ ?_
   refine AK.nextT (b:=14) (m:=10) rfl rfl rfl (bleN hC.n rfl) rfl rfl rfl rfl ?_ ?_
   ·intro hleft
    refine Qa hC [.n 7,.keep [5] []] rfl tt_ ?_
    exact AK.done (Or.inl (an_ hleft (an_ (fun h=>(by cases h)) (an_ rfl rfl))))
   ·intro xk11 k11 v12 hq8
    obtain⟨o,h⟩:=hex _ hq8
    have ho:=h
    replace h:QcJ n9 k11 v12=some o:=h
    unfold QcJ at h
    refine Qa hC [.n 10,.x (fun σ=>σ.put 17 (.tup [.i .i64 k11,.i .i64 v12])),.n 11,.keep [5,14] [10,14]] rfl ⟨tt_,(Stp.entryT (b:=14) (m:=10) rfl rfl (bleN hC.n rfl) rfl hq8 rfl rfl)⟩ ?_
    cases h
    exact AK.done (Or.inr (ex_ _ (an_ hq8 (Or.inl (ex_ _ (an_ ho (an_ rfl (ex_ _ rfl))))))))
  ·rcases o13 with(n9 | q)
   ·replace h:QkG n9=some r:=h
    unfold QkG at h
    rintro e σ ⟨rfl,rfl⟩
    refine Qa hC [.n 9,.keep [2] []] rfl tt_ ?_
    cases h
    exact AK.done (ex_ [_] (an_ (an_ rfl tt_) (gives tt_)))
   ·exact q.elim
def Qc0 (m1:(List (List (Int×Int))))(n3:Int)(x4:Int):Option ((Int×Int)⊕Int):=
 bif (decide (x4<(m1.length:Int)))then
 (idx m1 x4).bind fun e9=>
 (QiW e9).bind fun x10=>
 some (.inl ((w64 (n3+x10)),(w64 (x4+1))))
 else
 some (.inr n3)
def Qke (n7:Int):Option Int:=
 some n7
def Qcn (m1:(List (List (Int×Int)))):Option Int:=
 (QE (fun st=>Qc0 m1 st.1 st.2) (0,0)).bind (fun q=>Qke q)
theorem Qkf (m1:(List (List (Int×Int)))){r:Int}(h:Qcn m1=some r):Qc Tryz.prog 28 [.sl 1 (m1.map Qg)] [] (Gives (.i .i64 r) []):=by
 refine Qc.walk 18 Tryz.func28 rfl Tryz.ntmps28 rfl fun C hC=>?_
 unfold Qcn at h
 refine Qa hC [.n 14,.o (.ln m1.length),.n 4,.keep [3,6,7,8] []] rfl ⟨tt_,Qh⟩ ?_
 obtain⟨n7,hl11,h⟩:=Qb h
 refine AK.loop (body:=(fun st=>Qc0 m1 st.1 st.2)) (fun st σ=>σ=⟨[(3,.i .i64 st.1),(6,.sl 1 (m1.map Qg)),(7,.i .i64 (m1.length:Int)),(8,.i .i64 st.2)],[]⟩) (fun q e σ=>e=.exit 0∧σ=⟨[(3,.i .i64 q)],[]⟩) hl11 rfl ?_ ?_
 ·rintro ⟨n3,x4⟩ o σ rfl h
  replace h:Qc0 m1 n3 x4=some o:=h
  unfold Qc0 at h
  refine Qa hC [.n 6] rfl tt_ ?_
  rcases bifE h with⟨hc8,h⟩|⟨hc8,h⟩
  ·obtain⟨e9,he9,h⟩:=Qb h
   obtain⟨x10,hx10,h⟩:=Qb h
   refine Qa hC [.br true,.n 6,.o (.row (Qg e9)),.n 7,.o (.c false [.d] (.i .i64 x10)),.n 9,.keep [3,6,7,8] []] rfl ⟨⟨⟨tt_,hc8⟩,(idxM he9)⟩,(Qra _ hx10)⟩ ?_
   cases h
   exact rndN rfl rfl
  ·refine Qa hC [.br false,.n 2,.keep [3] []] rfl ⟨tt_,hc8⟩ ?_
   cases h
   exact rndX rfl (an_ rfl rfl)
 ·replace h:Qke n7=some r:=h
  unfold Qke at h
  rintro e σ ⟨rfl,rfl⟩
  refine Qa hC [.n 9,.keep [2] []] rfl tt_ ?_
  cases h
  exact AK.done (ex_ [_] (an_ (an_ rfl tt_) (gives tt_)))
def Qeq (x19:((List (List (Int×Int)))×Int))(x21:((List (List (Int×Int)))×Int))(x23:((List (List (Int×Int)))×Int))(x25:((List (List (Int×Int)))×Int))(n1:TNet)(m12:(List (List (Int×Int)))):Option Bool:=
 bif (x19.2 != 0)then
 some true
 else
 bif (x21.2 != 0)then
 some true
 else
 bif (x23.2 != 0)then
 some true
 else
 bif (x25.2 != 0)then
 some true
 else
 (QbT n1 x19.1).bind fun x32=>
 bif (!x32)then
 some true
 else
 (QbT n1 x23.1).bind fun x34=>
 bif (!x34)then
 some true
 else
 (Qf4 x21.1 m12).bind fun x36=>
 bif (!x36)then
 some true
 else
 (Qcn x19.1).bind fun x38=>
 (Qcn x25.1).bind fun x39=>
 (Qcn m12).bind fun x40=>
 some ((w64 (x38+x39)) != x40)
def Qc1 (x23:((List (List (Int×Int)))×Int))(i13:Int)(x26:Bool):Option (((List (List (Int×Int)))×Int)⊕(Unit⊕(List (List (Int×Int))))):=
 bif x26 then
 some (.inr (.inl ()))
 else
 some (.inl (x23.1,(w64 (i13+1))))
def Qbl (x11:(List Qk))(n1:TNet)(m12:(List (List (Int×Int))))(i13:Int):Option (((List (List (Int×Int)))×Int)⊕(Unit⊕(List (List (Int×Int))))):=
 bif (decide (i13<(x11.length:Int)))then
 (idx x11 i13).bind fun e18=>
 (Qck n1 m12 e18).bind fun x19=>
 (idx x11 i13).bind fun e20=>
 (Qf3 n1 x19.1 e20).bind fun x21=>
 (idx x11 i13).bind fun e22=>
 (QbO n1 m12 e22).bind fun x23=>
 (idx x11 i13).bind fun e24=>
 (QcT n1 e24).bind fun x25=>
 (Qeq x19 x21 x23 x25 n1 m12).bind (fun x26=>Qc1 x23 i13 x26)
 else
 some (.inr (.inr m12))
def Qg4 : Option Bool:=
 some false
def Qg5 (x6:Bool)(x43:((List (List (Int×Int)))×Int))(m16:(List (List (Int×Int))))(x11:(List Qk))(picks3:(List Int)):Option Bool:=
 bif x6 then
 bif (x43.2==0)then
 (Qf4 x43.1 m16).bind fun x48=>
 bif x48 then
 some (decide ((x11.length:Int)≤(picks3.length:Int)))
 else
 some false
 else
 some false
 else
 some false
def Qer (x44:Bool):Option Bool:=
 some x44
def Qc2 (n1:TNet)(x6:Bool)(x11:(List Qk))(picks3:(List Int))(m16:(List (List (Int×Int)))):Option Bool:=
 (Qis n1 m16 ([]:List Qk)).bind fun x43=>
 (Qg5 x6 x43 m16 x11 picks3).bind (fun x44=>Qer x44)
def Qc7 (n1:TNet)(m2:(List (List (Int×Int))))(picks3:(List Int)):Option Bool:=
 (Qi6).bind fun x6=>
 (Qic n1 m2).bind fun x7=>
 bif ((!x7)||(decide (8<(picks3.length:Int))))then
 some x6
 else
 (Qgv n1 m2 picks3).bind fun x11=>
 (QE (fun st=>Qbl x11 n1 st.1 st.2) (m2,0)).bind (Sum.elim (fun q=>Qg4) (fun q=>Qc2 n1 x6 x11 picks3 q))
theorem Qnx (n1:TNet)(m2:(List (List (Int×Int))))(picks3:(List Int)){r:Bool}(h:Qc7 n1 m2 picks3=some r):Qc Tryz.prog 7 [.agg (Qd n1),.sl 1 (m2.map Qg),.sl 1 (picks3.map Qe)] [] (Gives (.b r) []):=by
 refine Qc.walk 148 Tryz.func7 rfl Tryz.ntmps7 rfl fun C hC=>?_
 unfold Qc7 at h
 obtain⟨x6,hx6,h⟩:=Qb h
 obtain⟨x7,hx7,h⟩:=Qb h
 refine Qa hC [.n 8,.o (.c false [] (.b x6)),.n 5,.v .no [] (.agg (Qd n1)),.n 1,.o (.c false [.d,.d] (.b x7)),.n 5] rfl ⟨⟨⟨tt_,(QpK  hx6)⟩,rfl⟩,(QqA _ _ hx7)⟩ ?_
 refine AK.meetX (fun σ=>σ=⟨[(1,.sl 1 (m2.map Qg)),(2,.sl 1 (picks3.map Qe)),(3,.loc 3 0 0),(7,.b x6),(31,.b ((!x7)||(decide (8<(picks3.length:Int)))))],[(3,.var (Qd n1))]⟩) ?_ ?_
 ·refine Qa hC [.n 4] rfl tt_ ?_
  rcases QK (!x7)with hc9 | hc9
  ·refine Qa hC [.say 27 (.b true),.n 5,.say 31 (.b ((!x7)||(decide (8<(picks3.length:Int))))),.keep [1,2,3,7,31] [3]] rfl ⟨⟨tt_,(congrArg V.b hc9)⟩,(congrArg V.b (orT hc9 rfl))⟩ ?_
   exact AK.met rfl
  ·refine Qa hC [.say 27 (.b false),.n 1,.o (.ln picks3.length),.n 3,.say 31 (.b ((!x7)||(decide (8<(picks3.length:Int))))),.keep [1,2,3,7,31] [3]] rfl ⟨⟨⟨tt_,(congrArg V.b hc9)⟩,Qh⟩,(congrArg V.b (orF hc9 rfl))⟩ ?_
   exact AK.met rfl
 ·rintro σ rfl
  refine Qa hC [.n 1] rfl tt_ ?_
  rcases bifE h with⟨hc10,h⟩|⟨hc10,h⟩
  ·refine Qa hC [.br true,.n 8,.keep [6] []] rfl ⟨tt_,hc10⟩ ?_
   cases h
   exact AK.done (ex_ [_] (an_ (an_ rfl tt_) (gives tt_)))
  ·obtain⟨x11,hx11,h⟩:=Qb h
   refine Qa hC [.br false,.n 4,.v .no [] (.agg (Qd n1)),.n 2,.o (.co false [.d,.d,.d] 4 (x11.map Qj) x11.length),.n 10,.keep [1,2,3,7,9,10] [3,36]] rfl ⟨⟨⟨tt_,hc10⟩,rfl⟩,⟨(Qmn _ _ _ hx11),Qh,.inl rfl⟩⟩ ?_
   obtain⟨o42,hl42,h⟩:=Qb h
   refine AK.loop (body:=(fun st=>Qbl x11 n1 st.1 st.2)) (fun st σ=>σ=⟨[(1,.sl 1 (st.1.map Qg)),(2,.sl 1 (picks3.map Qe)),(3,.loc 3 0 0),(7,.b x6),(9,.own 36 x11.length),(10,.i .i64 st.2)],[(3,.var (Qd n1)),(36,.arr 4 (x11.map Qj))]⟩) (Sum.elim (fun q e σ=>e=.ret∧σ=⟨[(6,.b false)],[]⟩) (fun q e σ=>e=.exit 0∧σ=⟨[(1,.sl 1 (q.map Qg)),(2,.sl 1 (picks3.map Qe)),(3,.loc 3 0 0),(7,.b x6),(9,.own 36 x11.length)],[(3,.var (Qd n1)),(36,.arr 4 (x11.map Qj))]⟩)) hl42 rfl ?_ ?_
   ·rintro ⟨m12,i13⟩ o σ rfl h
    replace h:Qbl x11 n1 m12 i13=some o:=h
    unfold Qbl at h
    refine Qa hC [.n 9] rfl tt_ ?_
    rcases bifE h with⟨hc17,h⟩|⟨hc17,h⟩
    ·obtain⟨e18,he18,h⟩:=Qb h
     obtain⟨x19,hx19,h⟩:=Qb h
     refine Qa hC [.br true,.n 5,.keep [1,2,3,7,9,10] [3,36]] rfl ⟨tt_,hc17⟩ ?_
     refine AK.draw2 Qo hC mixed [.a .no (some ([],.agg (Qd n1))) false,.a .no none false,.a .no none false,.a .no none false,.a .no none false,.a (.row (Qj e18)) (some ([],.agg (Qj e18))) false,.a (.c false [.d,.d,.d] (.tup [.sl 1 (x19.1.map Qg),.i .i64 x19.2])) none false,.a .no none false,.a .no none false,.a .no none false,.a .no none false,.a .no none false] [] [] [1,2,3,7,9,10,11,12] [3,36] rfl rfl rfl ⟨⟨⟨⟨⟨tt_,rfl⟩,(Qdc he18 rfl)⟩,(QbJ (idxE he18).2)⟩,rfl⟩,(Qks _ _ _ hx19)⟩ rfl (by kernel_rfl) rfl rfl rfl ?_
     obtain⟨e20,he20,h⟩:=Qb h
     obtain⟨x21,hx21,h⟩:=Qb h
     refine Qa hC [.n 2,.keep [1,2,3,7,9,10,11,12] [3,36]] rfl tt_ ?_
     refine AK.draw2 Qo hC mixed [.a .no (some ([],.agg (Qd n1))) false,.a .no none false,.a .no none false,.a .no none false,.a .no none false,.a (.row (Qj e20)) (some ([],.agg (Qj e20))) false,.a (.c false [.d,.d,.d] (.tup [.sl 1 (x21.1.map Qg),.i .i64 x21.2])) none false,.a .no none false,.a .no none false,.a .no none false,.a .no none false,.a .no none false] [] [] [1,2,3,7,9,10,11,12,13,14] [3,36] rfl rfl rfl ⟨⟨⟨⟨⟨tt_,rfl⟩,(Qdc he20 rfl)⟩,(QbJ (idxE he20).2)⟩,rfl⟩,(QmP _ _ _ hx21)⟩ rfl (by kernel_rfl) rfl rfl rfl ?_
     obtain⟨e22,he22,h⟩:=Qb h
     obtain⟨x23,hx23,h⟩:=Qb h
     refine Qa hC [.n 2,.keep [1,2,3,7,9,10,11,12,13,14] [3,36]] rfl tt_ ?_
     refine AK.draw2 Qo hC mixed [.a .no (some ([],.agg (Qd n1))) false,.a .no none false,.a .no none false,.a .no none false,.a .no none false,.a (.row (Qj e22)) (some ([],.agg (Qj e22))) false,.a (.c false [.d,.d,.d] (.tup [.sl 1 (x23.1.map Qg),.i .i64 x23.2])) none false,.a .no none false,.a .no none false,.a .no none false,.a .no none false,.a .no none false] [] [] [1,2,3,7,9,10,11,12,13,14,15,16] [3,36] rfl rfl rfl ⟨⟨⟨⟨⟨tt_,rfl⟩,(Qdc he22 rfl)⟩,(QbJ (idxE he22).2)⟩,rfl⟩,(Qh8 _ _ _ hx23)⟩ rfl (by kernel_rfl) rfl rfl rfl ?_
     obtain⟨e24,he24,h⟩:=Qb h
     obtain⟨x25,hx25,h⟩:=Qb h
     refine Qa hC [.n 2,.keep [1,2,3,7,9,10,11,12,13,14,15,16] [3,36]] rfl tt_ ?_
     refine AK.draw2 Qo hC mixed [.a .no (some ([],.agg (Qd n1))) false,.a .no none false,.a .no none false,.a .no none false,.a (.row (Qj e24)) (some ([],.agg (Qj e24))) false,.a (.c false [.d,.d] (.tup [.sl 1 (x25.1.map Qg),.i .i64 x25.2])) none false,.a .no none false,.a .no none false,.a .no none false,.a .no none false,.a .no none false] [] [] [1,2,3,7,9,10,11,12,13,14,15,16,17,18] [3,36] rfl rfl rfl ⟨⟨⟨⟨⟨tt_,rfl⟩,(Qdc he24 rfl)⟩,(QbJ (idxE he24).2)⟩,rfl⟩,(QjU _ _ hx25)⟩ rfl (by kernel_rfl) rfl rfl rfl ?_
     refine Qa hC [.n 3] rfl tt_ ?_
     obtain⟨x26,hv27,h⟩:=Qb h
     replace h:Qc1 x23 i13 x26=some o:=h
     refine AK.meetX (fun σ=>σ=⟨[(2,.sl 1 (picks3.map Qe)),(3,.loc 3 0 0),(7,.b x6),(9,.own 36 x11.length),(10,.i .i64 i13),(15,.sl 1 (x23.1.map Qg)),(123,.b x26)],[(3,.var (Qd n1)),(36,.arr 4 (x11.map Qj))]⟩) ?_ ?_
     ·replace h:=hv27
      unfold Qeq at h
      refine Qa hC [.n 4] rfl tt_ ?_
      rcases bifE h with⟨hc28,h⟩|⟨hc28,h⟩
      ·refine Qa hC [.say 84 (.b true),.n 40,.keep [2,3,7,9,10,15,123] [3,36]] rfl ⟨tt_,(congrArg V.b hc28)⟩ ?_
       cases h
       exact AK.met rfl
      ·refine Qa hC [.say 84 (.b false),.n 4] rfl ⟨tt_,(congrArg V.b hc28)⟩ ?_
       rcases bifE h with⟨hc29,h⟩|⟨hc29,h⟩
       ·refine Qa hC [.say 88 (.b true),.n 36,.keep [2,3,7,9,10,15,123] [3,36]] rfl ⟨tt_,(congrArg V.b hc29)⟩ ?_
        cases h
        exact AK.met rfl
       ·refine Qa hC [.say 88 (.b false),.n 4] rfl ⟨tt_,(congrArg V.b hc29)⟩ ?_
        rcases bifE h with⟨hc30,h⟩|⟨hc30,h⟩
        ·refine Qa hC [.say 92 (.b true),.n 32,.keep [2,3,7,9,10,15,123] [3,36]] rfl ⟨tt_,(congrArg V.b hc30)⟩ ?_
         cases h
         exact AK.met rfl
        ·refine Qa hC [.say 92 (.b false),.n 4] rfl ⟨tt_,(congrArg V.b hc30)⟩ ?_
         rcases bifE h with⟨hc31,h⟩|⟨hc31,h⟩
         ·refine Qa hC [.say 96 (.b true),.n 28,.keep [2,3,7,9,10,15,123] [3,36]] rfl ⟨tt_,(congrArg V.b hc31)⟩ ?_
          cases h
          exact AK.met rfl
         ·obtain⟨x32,hx32,h⟩:=Qb h
          refine Qa hC [.say 96 (.b false),.v .no [] (.agg (Qd n1)),.n 1,.o (.c false [.d,.d] (.b x32)),.n 3] rfl ⟨⟨⟨tt_,(congrArg V.b hc31)⟩,rfl⟩,(Qkb _ _ hx32)⟩ ?_
          rcases bifE h with⟨hc33,h⟩|⟨hc33,h⟩
          ·refine Qa hC [.say 102 (.b true),.n 22,.keep [2,3,7,9,10,15,123] [3,36]] rfl ⟨tt_,(congrArg V.b hc33)⟩ ?_
           cases h
           exact AK.met rfl
          ·obtain⟨x34,hx34,h⟩:=Qb h
           refine Qa hC [.say 102 (.b false),.v .no [] (.agg (Qd n1)),.n 1,.o (.c false [.d,.d] (.b x34)),.n 3] rfl ⟨⟨⟨tt_,(congrArg V.b hc33)⟩,rfl⟩,(Qkb _ _ hx34)⟩ ?_
           rcases bifE h with⟨hc35,h⟩|⟨hc35,h⟩
           ·refine Qa hC [.say 108 (.b true),.n 16,.keep [2,3,7,9,10,15,123] [3,36]] rfl ⟨tt_,(congrArg V.b hc35)⟩ ?_
            cases h
            exact AK.met rfl
           ·obtain⟨x36,hx36,h⟩:=Qb h
            refine Qa hC [.say 108 (.b false),.n 2,.o (.c false [.d,.d] (.b x36)),.n 3] rfl ⟨⟨tt_,(congrArg V.b hc35)⟩,(Qkv _ _ hx36)⟩ ?_
            rcases bifE h with⟨hc37,h⟩|⟨hc37,h⟩
            ·refine Qa hC [.say 114 (.b true),.n 10,.keep [2,3,7,9,10,15,123] [3,36]] rfl ⟨tt_,(congrArg V.b hc37)⟩ ?_
             cases h
             exact AK.met rfl
            ·obtain⟨x38,hx38,h⟩:=Qb h
             obtain⟨x39,hx39,h⟩:=Qb h
             obtain⟨x40,hx40,h⟩:=Qb h
             refine Qa hC [.say 114 (.b false),.n 1,.o (.c false [.d] (.i .i64 x38)),.n 1,.o (.c false [.d] (.i .i64 x39)),.n 2,.o (.c false [.d] (.i .i64 x40)),.n 3,.keep [2,3,7,9,10,15,123] [3,36]] rfl ⟨⟨⟨⟨tt_,(congrArg V.b hc37)⟩,(Qkf _ hx38)⟩,(Qkf _ hx39)⟩,(Qkf _ hx40)⟩ ?_
             cases h
             exact AK.met rfl
     ·rintro σ rfl
      replace h:Qc1 x23 i13 x26=some o:=h
      unfold Qc1 at h
      refine Qa hC [.n 1] rfl tt_ ?_
      rcases bifE h with⟨hc41,h⟩|⟨hc41,h⟩
      ·refine Qa hC [.br true,.n 9,.keep [6] []] rfl ⟨tt_,hc41⟩ ?_
       cases h
       exact rndR rfl (an_ rfl rfl)
      ·refine Qa hC [.br false,.n 13,.keep [1,2,3,7,9,10] [3,36]] rfl ⟨tt_,hc41⟩ ?_
       cases h
       exact rndN rfl rfl
    ·refine Qa hC [.br false,.n 2,.keep [1,2,3,7,9] [3,36]] rfl ⟨tt_,hc17⟩ ?_
     cases h
     exact rndX rfl (an_ rfl rfl)
   ·rcases o42 with(_ | m16)
    ·replace h:Qg4=some r:=h
     unfold Qg4 at h
     rintro e σ ⟨rfl,rfl⟩
     refine Qa hC [.n 2,.keep [6] []] rfl tt_ ?_
     cases h
     exact AK.done (ex_ [_] (an_ (an_ rfl tt_) (gives tt_)))
    ·replace h:Qc2 n1 x6 x11 picks3 m16=some r:=h
     unfold Qc2 at h
     rintro e σ ⟨rfl,rfl⟩
     obtain⟨x43,hx43,h⟩:=Qb h
     refine Qa hC [.n 4,.v .no [] (.agg (Qd n1)),.n 1,.o (.c false [.d,.d,.n 4] (.tup [.sl 1 (x43.1.map Qg),.i .i64 x43.2])),.n 8] rfl ⟨⟨tt_,rfl⟩,(QnJ _ _ _ hx43)⟩ ?_
     obtain⟨x44,hv45,h⟩:=Qb h
     replace h:Qer x44=some r:=h
     refine AK.meetX (fun σ=>σ=⟨[(6,.b x44)],[]⟩) ?_ ?_
     ·replace h:=hv45
      unfold Qg5 at h
      refine Qa hC [.n 3] rfl tt_ ?_
      rcases bifE h with⟨hc46,h⟩|⟨hc46,h⟩
      ·refine Qa hC [.say 132 (.b true),.n 4] rfl ⟨tt_,(congrArg V.b hc46)⟩ ?_
       rcases bifE h with⟨hc47,h⟩|⟨hc47,h⟩
       ·obtain⟨x48,hx48,h⟩:=Qb h
        refine Qa hC [.say 136 (.b true),.n 2,.o (.c false [.d,.d] (.b x48)),.n 2] rfl ⟨⟨tt_,(congrArg V.b hc47)⟩,(Qkv _ _ hx48)⟩ ?_
        rcases bifE h with⟨hc49,h⟩|⟨hc49,h⟩
        ·refine Qa hC [.say 141 (.b true),.n 3,.o (.ln picks3.length),.n 4,.keep [6] []] rfl ⟨⟨tt_,(congrArg V.b hc49)⟩,Qh⟩ ?_
         cases h
         exact AK.met rfl
        ·refine Qa hC [.say 141 (.b false),.n 8,.keep [6] []] rfl ⟨tt_,(congrArg V.b hc49)⟩ ?_
         cases h
         exact AK.met rfl
       ·refine Qa hC [.say 136 (.b false),.n 13,.keep [6] []] rfl ⟨tt_,(congrArg V.b hc47)⟩ ?_
        cases h
        exact AK.met rfl
      ·refine Qa hC [.say 132 (.b false),.n 17,.keep [6] []] rfl ⟨tt_,(congrArg V.b hc46)⟩ ?_
       cases h
       exact AK.met rfl
     ·rintro σ rfl
      replace h:Qer x44=some r:=h
      unfold Qer at h
      refine Qa hC [.n 2,.keep [6] []] rfl tt_ ?_
      cases h
      exact AK.done (ex_ [_] (an_ (an_ rfl tt_) (gives tt_)))

end Go.Proofs
