/- A part of the proof; what it holds is told at each theorem. -/
import Derived.Test.YtphohlpbjofddaaGreatDoorL4P2
import Derived.Test.YtphohlpbjofddaaGreatDoorL4P2
set_option linter.unusedVariables false
set_option linter.unusedSimpArgs false
set_option linter.unusedSectionVars false
set_option linter.deprecated false
noncomputable section
namespace Go.Proofs
open Go Go.RowKit Go.Vm
theorem Qw1 (n:TNet)(m:List Bag)(budget:Int)(hn:QJ n)(hm:lenL (lenL fun _=>True) m):TotP (Qhw n m budget) fun r=>r=true→QY n∧Bd n∧Good n m∧budget≤12:=by
 unfold Qhw
 refine TotP.bind (QxT n m hn hm).self fun f hf=>?_
 obtain⟨hfe,hf⟩:=hf
 refine TotP.bind (P:=fun r=>r=true→QY n∧Bd n∧Good n m∧budget≤12) ?_ fun r hr=>?_
 ·unfold QiH
  refine TotP.bif (fun c1=>?_) fun _=>TotP.ok fun h=>by cases h
  refine TotP.bif (fun c2=>?_) fun _=>TotP.ok fun h=>by cases h
  refine TotP.bif (fun c3=>?_) fun _=>TotP.ok fun h=>by cases h
  obtain⟨h,g1,g2⟩:=hf c1
  subst c1
  rw [Qtg h g1 (by omega),Option.bind_some]
  exact TotP.ok fun _=>⟨h,Qxx n m h hfe,⟨g1,g2⟩,by simpa using c2⟩
 ·unfold Qeu
  exact TotP.ok hr
theorem Qwn {n:TNet}{m:List Bag}(h:QY n)(hg:Good n m):∃k:Nat,Qie n m=some (k:Int):=by
 unfold Qie
 rw [Qrq n m 60 h (hg.len h) (by omega) (by omega) (.inl (by omega)),Option.bind_some]
 exact⟨_,rfl⟩
theorem Qvu (a b:Bag)(ha:a.length≤maxLen):∃r,Q3 a b=some r∧(r=true→a=b):=by
 have key:TotP (Q3 a b) fun r=>r=true→a=b:=by
  unfold Q3
  refine TotP.bif (fun hc=>TotP.ok fun h=>by cases h) fun hc=>?_
  simp only [bne_eq_false_iff_eq]at hc
  have hc:a.length=b.length:=by omega
  refine TotP.bind (TotP.up a.length (fun st=>st) (fun st=>a.take st.toNat=b.take st.toNat) (Q:=fun q:Unit⊕Unit=>q=.inr ()→a=b) rfl rfl (fun i st hi hn hJ=>?_)) (fun q hq=>?_)
  ·replace hi:st=(i:Int):=hi
   subst hi
   replace hJ:a.take (i:Int).toNat=b.take (i:Int).toNat:=hJ
   rw [Int.toNat_natCast]at hJ
   show TotP (QO a b i) _
   unfold QO
   refine TotP.bif (fun hc2=>?_) (fun hc2=>TotP.ok (Ql fun _=>?_))
   ·simp only [decide_eq_true_eq]at hc2
    have i1:i<a.length:=by omega
    have i2:i<b.length:=by omega
    rw [QX,List.getElem?_eq_getElem i1,Option.bind_some,QX,List.getElem?_eq_getElem i2,Option.bind_some]
    refine TotP.bif (fun hc3=>TotP.ok (Ql fun e=>by cases e)) fun hc3=>?_
    have hw:w64 ((i:Int)+1)=((i+1:Nat):Int):=Qu i1 ha
    refine TotP.ok (Qx ⟨i1,hw,?_⟩)
    show a.take (w64 ((i:Int)+1)).toNat=b.take (w64 ((i:Int)+1)).toNat
    rw [hw,Int.toNat_natCast,List.take_add_one,List.take_add_one,hJ,List.getElem?_eq_getElem i1,List.getElem?_eq_getElem i2]
    simp at hc3
    rw [Prod.ext hc3.1 hc3.2]
   ·simp only [decide_eq_false_iff_not]at hc2
    rwa [List.take_of_length_le (by omega),List.take_of_length_le (by omega)]at hJ
  ·rcases q with q | q
   ·exact TotP.ok fun h=>by cases h
   ·exact TotP.ok fun _=>hq rfl
 exact key
theorem QsK {n:TNet}{a b:List Bag}(h:QY n)(ha:Good n a)(hb:Good n b):∃r,Qe5 a b=some r∧(r=true→a=b):=by
 have hpl:=h.pl
 have ha1:=ha.1.1
 have hb1:=hb.1.1
 have key:TotP (Qe5 a b) fun r=>r=true→a=b:=by
  unfold Qe5 QK
  refine TotP.bind (P:=fun r=>r=true→a=b) ?_ fun r hr=>TotP.ok hr
  rw [show((a.length:Int) != (b.length:Int))=false by simp;omega,cond_false]
  refine TotP.bind (TotP.up a.length (fun st=>st) (fun st=>a.take st.toNat=b.take st.toNat) (Q:=fun q:Unit⊕Unit=>q=.inr ()→a=b) rfl rfl (fun i st hi hn hJ=>?_)) (fun q hq=>?_)
  ·replace hi:st=(i:Int):=hi
   subst hi
   replace hJ:a.take (i:Int).toNat=b.take (i:Int).toNat:=hJ
   rw [Int.toNat_natCast]at hJ
   show TotP (Qt a b i) _
   unfold Qt
   refine TotP.bif (fun hc2=>?_) (fun hc2=>TotP.ok (Ql fun _=>?_))
   ·simp only [decide_eq_true_eq]at hc2
    have i1:i<a.length:=by omega
    have i2:i<b.length:=by omega
    have g1:=ha.1.2 _ (List.getElem_mem i1)
    have g2:=hb.1.2 _ (List.getElem_mem i2)
    rw [QX,List.getElem?_eq_getElem i1,Option.bind_some,QX,List.getElem?_eq_getElem i2,Option.bind_some]
    refine TotP.bind (P:=fun r=>r=true→a[i]=b[i]) ?_ fun r hr=>?_
    ·unfold Qjo Qkb
     rw [Qhy _ (by unfold maxLen;omega),Qdr.2 g1.1,Option.bind_some,cond_true,Qhy _ (by unfold maxLen;omega),Qdr.2 g2.1,Option.bind_some,cond_true]
     obtain⟨r,hr,hr2⟩:=Qvu a[i] b[i] (by unfold maxLen;omega)
     rw [hr]
     exact TotP.ok hr2
    ·refine TotP.bif (fun _=>TotP.ok (Ql fun e=>by cases e)) fun hc3=>?_
     have e:=hr (by simpa using hc3)
     have hw:w64 ((i:Int)+1)=((i+1:Nat):Int):=Qu i1 (by unfold maxLen;omega:a.length≤maxLen)
     refine TotP.ok (Qx ⟨i1,hw,?_⟩)
     show a.take (w64 ((i:Int)+1)).toNat=b.take (w64 ((i:Int)+1)).toNat
     rw [hw,Int.toNat_natCast,List.take_add_one,List.take_add_one,hJ,List.getElem?_eq_getElem i1,List.getElem?_eq_getElem i2,e]
   ·simp only [decide_eq_false_iff_not]at hc2
    rwa [List.take_of_length_le (by omega),List.take_of_length_le (by omega)]at hJ
  ·rcases q with q | q
   ·exact TotP.ok fun h=>by cases h
   ·exact TotP.ok fun _=>hq rfl
 exact key
end Go.Proofs
noncomputable section
namespace Go.Proofs
open Go Go.RowKit Go.Vm
theorem Qxa (x:Int):IntKind.u8.wrap x=x % 256:=rfl
theorem Qmy (k:Nat)(x:Int)(hk:k<8):IntKind.u8.wrap (shrI .i64 x (w64 (8*(k:Int))))=(x / (2 ^ (8*k):Nat)) % 256:=by
 rw [Qxa,Qcn (by omega)]
 unfold shrI
 rw [show(8*(k:Int)).toNat=8*k by omega,show min (8*k) (IntKind.bits .i64)=8*k from Nat.min_eq_left (by show 8*k≤64;omega),Int.fdiv_eq_ediv_of_nonneg _ (Int.pow_nonneg (by omega))]
 simp
theorem Qt4 (x:Int):QQ 2 x=[x / 256 % 256,x % 256]:=by
 simp only [QQ,Qmy 0 x (by omega),Qmy 1 x (by omega)];simp
theorem Qt5 (x:Int):QQ 4 x=[x / 16777216 % 256,x / 65536 % 256,x / 256 % 256,x % 256]:=by
 simp only [QQ,Qmy 0 x (by omega),Qmy 1 x (by omega),Qmy 2 x (by omega),Qmy 3 x (by omega)];simp
theorem Qym {x y:Int}(hx:0≤x∧x<65536)(hy:0≤y∧y<65536)(h:QQ 2 x=QQ 2 y):x=y:=by
 rw [Qt4,Qt4]at h
 simp only [List.cons.injEq,and_true]at h
 omega
theorem Qxb {x y:Int}(hx:0≤x∧x<4294967296)(hy:0≤y∧y<4294967296)(h:QQ 4 x=QQ 4 y):x=y:=by
 rw [Qt5,Qt5]at h
 simp only [List.cons.injEq,and_true]at h
 omega
theorem QoN {k:Nat}{x:Int}(hk:k≤8):∀b∈QQ k x,0≤b∧b<256:=by
 induction k with
 | zero=>intro b h;cases h
 | succ k ih=>
  intro b h
  rcases List.mem_cons.1 h with rfl | h
  ·rw [Qxa];omega
  ·exact ih (by omega) b h
def rowB (p:Int×Int):List Int:=QQ 4 p.1++QQ 4 p.2
theorem Qt6 (p:Int×Int):(rowB p).length=8:=by simp [rowB,QbB]
def InP (p:Int×Int):Prop:=(0≤p.1∧p.1<4294967296)∧0≤p.2∧p.2<4294967296
theorem Qw2 : ∀(a b:Bag),a.length=b.length→(∀p∈a,InP p)→(∀p∈b,InP p)→a.flatMap rowB=b.flatMap rowB→a=b:=by
 intro a
 induction a with
 | nil=>intro b h _ _ _;exact(List.length_eq_zero_iff.1 (by simpa using h.symm)).symm
 | cons p a ih=>
  intro b h ha hb e
  cases b with
  | nil=>simp at h
  | cons q b=>
   rw [List.flatMap_cons,List.flatMap_cons]at e
   obtain⟨e1,e2⟩:=List.append_inj e (by rw [Qt6,Qt6])
   obtain⟨e3,e4⟩:=List.append_inj e1 (by rw [QbB,QbB])
   have hp:=ha p List.mem_cons_self
   have hq:=hb q List.mem_cons_self
   have f1:=Qxb hp.1 hq.1 e3
   have f2:=Qxb hp.2 hq.2 e4
   rw [Prod.ext f1 f2,ih b (by simpa using h) (fun r hr=>ha r (List.mem_cons_of_mem _ hr)) (fun r hr=>hb r (List.mem_cons_of_mem _ hr)) e2]
def InB (b:Bag):Prop:=b.length<65536∧∀p∈b,InP p
theorem Qw3 : ∀(a b:List Bag),a.length=b.length→(∀x∈a,InB x)→(∀x∈b,InB x)→a.flatMap bagB=b.flatMap bagB→a=b:=by
 intro a
 induction a with
 | nil=>intro b h _ _ _;exact(List.length_eq_zero_iff.1 (by simpa using h.symm)).symm
 | cons x a ih=>
  intro b h ha hb e
  cases b with
  | nil=>simp at h
  | cons y b=>
   have hx:=ha x List.mem_cons_self
   have hy:=hb y List.mem_cons_self
   rw [List.flatMap_cons,List.flatMap_cons]at e
   have e':=e
   unfold bagB at e'
   rw [List.append_assoc,List.append_assoc]at e'
   have e1:=(List.append_inj e' (by rw [QbB,QbB])).1
   have hl:=Qym (x:=(x.length:Int)) (y:=(y.length:Int)) ⟨by omega,by have:=hx.1;omega⟩ ⟨by omega,by have:=hy.1;omega⟩ e1
   have hl:x.length=y.length:=by omega
   obtain⟨f1,f2⟩:=List.append_inj e (by rw [Qrr,Qrr,hl])
   have f3:=(List.append_inj f1 (by rw [QbB,QbB])).2
   rw [Qw2 x y hl hx.2 hy.2 f3,ih b (by simpa using h) (fun r hr=>ha r (List.mem_cons_of_mem _ hr)) (fun r hr=>hb r (List.mem_cons_of_mem _ hr)) f2]
theorem Qsg (l:List Int):(Qj1 l).data.toList=l.map fun x=>UInt8.ofNat x.toNat:=by
 unfold Qj1
 have:∀(l:List Int) (r:ByteArray),(l.foldl (fun r n=>r.push (UInt8.ofNat n.toNat)) r).data.toList=r.data.toList++l.map fun x=>UInt8.ofNat x.toNat:=by
  intro l
  induction l with
  | nil=>intro r;simp
  | cons x l ih=>intro r;rw [List.foldl_cons,ih];simp [ByteArray.push]
 rw [this];rfl
theorem Qwo {a b:List Int}(ha:∀x∈a,0≤x∧x<256)(hb:∀x∈b,0≤x∧x<256)(h:Qj1 a=Qj1 b):a=b:=by
 have e:(a.map fun x=>UInt8.ofNat x.toNat)=b.map fun x=>UInt8.ofNat x.toNat:=by rw [←Qsg,←Qsg,h]
 clear h
 induction a generalizing b with
 | nil=>cases b with
  | nil=>rfl
  | cons y b=>simp at e
 | cons x a ih=>cases b with
  | nil=>simp at e
  | cons y b=>
   simp only [List.map_cons,List.cons.injEq]at e
   have h1:=ha x List.mem_cons_self
   have h2:=hb y List.mem_cons_self
   have e1:=congrArg UInt8.toNat e.1
   rw [UInt8.toNat_ofNat',UInt8.toNat_ofNat']at e1
   have:x=y:=by omega
   rw [this,ih (fun z hz=>ha z (List.mem_cons_of_mem _ hz)) (fun z hz=>hb z (List.mem_cons_of_mem _ hz)) e.2]
theorem Qt7 (m:List Bag):∀x∈Qqb m,0≤x∧x<256:=by
 intro x hx
 unfold Qqb at hx
 rcases List.mem_append.1 hx with hx | hx
 ·exact QoN (by omega) x hx
 ·obtain⟨b,_,hx⟩:=List.mem_flatMap.1 hx
  unfold bagB at hx
  rcases List.mem_append.1 hx with hx | hx
  ·exact QoN (by omega) x hx
  ·obtain⟨p,_,hx⟩:=List.mem_flatMap.1 hx
   rcases List.mem_append.1 hx with hx | hx
   ·exact QoN (by omega) x hx
   ·exact QoN (by omega) x hx
theorem QuF {n:TNet}{m:List Bag}(h:QY n)(hg:Good n m):∀b∈m,InB b:=fun b hb=>by
 obtain⟨hr,hl⟩:=hg.1.2 b hb
 refine⟨by omega,fun p hp=>?_⟩
 have h1:=hr.2 p hp
 obtain⟨j,hj,rfl⟩:=List.mem_iff_getElem.1 hb
 have hj2:j<n.Places.length:=by have:=hg.1.1;omega
 have h2:=Qin hr.1.nd hp
 obtain⟨z,hz,hk⟩:=hg.2 j _ _ (List.getElem?_eq_getElem hj) (List.getElem?_eq_getElem hj2) p.1 (by rw [h2];omega)
 have:=QhA (Qct _ _ h.k.1) hz
 exact⟨⟨h1.1,by omega⟩,by omega,by omega⟩
theorem Qxz {n:TNet}{a b:List Bag}(h:QY n)(hp:n.Places.length≤64)(ha:Good n a)(hb:Good n b)(e:QbC a=QbC b):a=b:=by
 have ha1:=ha.1.1
 have hb1:=hb.1.1
 unfold QbC at e
 rw [if_pos (by omega),if_pos (by omega)]at e
 have e:=Qwo (Qt7 a) (Qt7 b) e
 unfold Qqb at e
 exact Qw3 a b (by omega) (QuF h ha) (QuF h hb) (List.append_inj e (by rw [QbB,QbB])).2
theorem Quq (n1:TNet)(m:List (List (Int×Int)))(hf:Qdp n1 m=some true):n1.Places.length≤64:=by
 unfold Qdp at hf
 obtain⟨x5,_,hf⟩:=Qb hf
 obtain⟨x6,_,hf⟩:=Qb hf
 rcases bifE hf with⟨_,hf⟩|⟨_,hf⟩
 ·cases hf
 obtain⟨x11,h11,hf⟩:=Qb hf
 obtain⟨x12,h12,hf⟩:=Qb hf
 unfold Qdo at hf
 rcases bifE hf with⟨_,hf⟩|⟨c,_⟩
 ·cases hf
 subst c
 unfold QgH at h12
 rcases bifE h12 with⟨_,h12⟩|⟨c,_⟩
 ·cases h12
 simp only [bne_eq_false_iff_eq]at c
 unfold Qdd at h11
 obtain⟨y,hy,h11⟩:=Qb h11
 rcases bifE h11 with⟨c2,h11⟩|⟨c2,_⟩
 ·simp only [Option.some.injEq]at h11
  rw [←h11]at c
  simp only at c
  rw [c]at c2;cases c2
 simp only [bne_eq_false_iff_eq]at c2
 subst c2
 unfold Qgi Qgh at hy
 rw [Option.bind_some]at hy
 rcases bifE hy with⟨_,hy⟩|⟨c3,_⟩
 ·cases hy
 ·simp only [Bool.not_eq_false',Bool.and_eq_true,decide_eq_true_eq]at c3
  omega
theorem Qur (n:TNet)(m:List Bag)(budget:Int)(hn:QJ n)(hm0:lenL (lenL fun _=>True) m):Qcg n m budget=some true:=by
 unfold Qcg
 rw [Qvt,Option.bind_some]
 obtain⟨f,hf,hf2⟩:=Qw1 n m budget hn hm0
 rw [hf,Option.bind_some]
 cases hc:(!f)with
 | true=>rfl
 | false=>
  simp only [cond_false]
  have hft:f=true:=by simpa using hc
  obtain⟨h,hb,hg,hbud⟩:=hf2 hft
  have hpl:n.Places.length≤64:=by
   subst hft
   unfold Qhw at hf
   obtain⟨g,hg1,hf⟩:=Qb hf
   obtain⟨g2,hg3,hf⟩:=Qb hf
   unfold Qeu at hf
   cases hf
   unfold QiH at hg3
   rcases bifE hg3 with⟨c,_⟩|⟨_,hg3⟩
   ·subst c;exact Quq n m hg1
   ·cases hg3
  obtain⟨k,hk⟩:=Qwn h hg
  rw [hk,Option.bind_some]
  cases hc2:decide ((40:Int)≤(k:Int))with
  | true=>rfl
  | false=>
   simp only [cond_false]
   rw [Qvr (-1) budget h hb hg,Option.bind_some]
   obtain⟨g1,g2,_,_⟩:=Qvs (-1) budget h hg
   have hcl:(Qii n (-1) budget m).2=true→∀x∈(Qii n (-1) budget m).1,∀y∈Qke n (-1) x,hasK QbC (Qii n (-1) budget m).1 y=true:=by
    unfold Qii
    by_cases c0:QT budget=0
    ·rw [if_pos c0];intro e;cases e
    ·rw [if_neg c0]
     exact QtQ _ (by simp;omega) (by omega) fun j x hj=>by omega
   have hmost:=(QuE budget).2
   generalize Qii n (-1) budget m=X at g1 g2 hcl ⊢
   cases hX:X.2 with
   | false=>rfl
   | true=>
    simp only [Bool.not_true,cond_false]
    have main:TotP (QA (fun st=>QaY X n st) 0) fun q:Unit⊕Unit=>q=.inr ():=by
     refine TotP.up X.1.length (fun st=>st) (fun _=>True) rfl trivial (fun i st hi hn2 _=>?_)
     replace hi:st=(i:Int):=hi
     subst hi
     show TotP (QaY X n i) _
     unfold QaY
     refine TotP.bif (fun hc3=>?_) (fun _=>TotP.ok (Ql rfl))
     simp only [decide_eq_true_eq]at hc3
     have i1:i<X.1.length:=by omega
     have hxm:=List.getElem_mem i1
     have hgx:=g1 _ hxm
     have hxe:idx X.1 (i:Int)=some X.1[i]:=by rw [QX,List.getElem?_eq_getElem i1]
     have hcx:=hcl hX _ hxm
     rw [hxe,Option.bind_some]
     generalize X.1[i]=x at hgx hxe hcx ⊢
     have hxl:=hgx.len h
     rw [Qrq n x 200 h hxl (by omega) (by omega) (.inl (by omega)),Option.bind_some]
     have hmem:∀o∈(allL n x).take (200:Int).toNat,o∈allL n x:=fun o ho=>List.mem_of_mem_take ho
     have hlen:((allL n x).take (200:Int).toNat).length≤200:=by rw [List.length_take];omega
     generalize (allL n x).take (200:Int).toNat=O at hmem hlen ⊢
     have inner:TotP (QA (fun st=>QaX O X i n st) 0) fun q:Unit⊕Unit=>q=.inr ():=by
      refine TotP.up O.length (fun st=>st) (fun _=>True) rfl trivial (fun k st hk hn3 _=>?_)
      replace hk:st=(k:Int):=hk
      subst hk
      show TotP (QaX O X i n k) _
      unfold QaX
      refine TotP.bif (fun hc4=>?_) (fun _=>TotP.ok (Ql rfl))
      simp only [decide_eq_true_eq]at hc4
      have k1:k<O.length:=by omega
      have ho:=hmem _ (List.getElem_mem k1)
      rw [hxe,Option.bind_some,QX,List.getElem?_eq_getElem k1,Option.bind_some]
      generalize O[k]=o at ho ⊢
      have hok:=Qt1 h hxl ho
      obtain⟨⟨y,c⟩,hD,_⟩:=t_Do n x o 1024 h hgx.1 (by omega) hok
      rw [hD,Option.bind_some]
      have hin:TotP (QA (fun st=>Qal X (y,c) st.1 st.2) ((c != 0),(0:Int))) fun q:Bool=>q=true:=by
       by_cases c0:c=0
       ·subst c0
        have hgy:=QsI h hgx hok hD
        have hsucc:y∈Qke n (-1) x:=by
         refine List.mem_filterMap.2 ⟨o,ho,?_⟩
         have h0:0≤o.Task:=by
          obtain⟨_,e,he,_⟩:=QlX.1 (QuD.1 ho)
          unfold idx at he
          split at he
          ·assumption
          ·cases he
         unfold QgI
         rw [if_neg (by omega),hD];rfl
        obtain⟨z,hz,hzk⟩:=List.any_eq_true.1 (hcx y hsucc)
        have hzy:z=y:=Qxz h hpl (g1 z hz) hgy (of_decide_eq_true hzk)
        subst hzy
        obtain⟨j0,hj0,hje⟩:=List.mem_iff_getElem.1 hz
        refine TotP.up X.1.length (fun st=>st.2) (fun st=>(j0:Int)<st.2→st.1=true) rfl (fun e=>by simp at e;omega) (fun j st hj hn4 hK=>?_)
        obtain⟨a,x'⟩:=st
        replace hj:x'=(j:Int):=hj
        subst hj
        replace hK:(j0:Int)<(j:Int)→a=true:=hK
        show TotP (Qal X (z,0) a j) _
        unfold Qal
        refine TotP.bif (fun hc5=>?_) (fun hc5=>TotP.ok (Ql ?_))
        ·simp only [decide_eq_true_eq]at hc5
         have j1:j<X.1.length:=by omega
         have hw:w64 ((j:Int)+1)=((j+1:Nat):Int):=Qu j1 (by unfold maxLen;omega:X.1.length≤maxLen)
         refine TotP.bind (P:=fun r=>(a=true→r=true)∧(j=j0→r=true)) ?_ fun r hr=>?_
         ·unfold Qf2
          refine TotP.bif (fun _=>TotP.ok ⟨fun _=>rfl,fun _=>rfl⟩) fun ha=>?_
          rw [QX,List.getElem?_eq_getElem j1,Option.bind_some]
          by_cases cj:j=j0
          ·subst cj
           rw [hje,QsH h hgy.1 (by omega)]
           exact TotP.ok ⟨fun _=>rfl,fun _=>rfl⟩
          ·obtain⟨s,hs,_⟩:=QsK h hgy (g1 _ (List.getElem_mem j1))
           rw [hs]
           exact TotP.ok ⟨fun e=>absurd (e.symm.trans ha) (by decide),fun e=>absurd e cj⟩
         ·unfold Qcm
          refine TotP.ok (Qx ⟨j1,hw,fun e=>?_⟩)
          replace e:(j0:Int)<w64 ((j:Int)+1):=e
          rw [hw]at e
          by_cases cj:j=j0
          ·exact hr.2 cj
          ·exact hr.1 (hK (by omega))
        ·simp only [decide_eq_false_iff_not]at hc5
         exact hK (by omega)
       ·refine TotP.up X.1.length (fun st=>st.2) (fun st=>st.1=true) rfl (by simpa using c0) (fun j st hj hn4 hK=>?_)
        obtain⟨a,x'⟩:=st
        replace hj:x'=(j:Int):=hj
        subst hj
        replace hK:a=true:=hK
        subst hK
        show TotP (Qal X (y,c) true j) _
        unfold Qal
        refine TotP.bif (fun hc5=>?_) (fun hc5=>TotP.ok (Ql rfl))
        simp only [decide_eq_true_eq]at hc5
        have j1:j<X.1.length:=by omega
        exact TotP.ok (Qx ⟨j1,Qu j1 (by unfold maxLen;omega:X.1.length≤maxLen),rfl⟩)
      obtain⟨q,hq1,rfl⟩:=hin
      rw [hq1,Option.bind_some]
      exact TotP.ok (Qx ⟨k1,Qu k1 (by unfold maxLen;omega:O.length≤maxLen),trivial⟩)
     obtain⟨q,hq1,rfl⟩:=inner
     rw [hq1,Option.bind_some]
     exact TotP.ok (Qx ⟨i1,Qu i1 (by unfold maxLen;omega:X.1.length≤maxLen),trivial⟩)
    obtain⟨q,hq1,rfl⟩:=main
    rw [hq1];rfl
end Go.Proofs
