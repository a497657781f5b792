/- A part of the proof. -/
import Derived.Test.YthihjgnmfnohoaaGreatDoorR1P2
import Derived.Test.YthihjgnmfnohoaaGreatDoorR1P2
import Derived.KernelRfl
import Derived.Test.YthihjgnmfnohoaaGreatDoorR1T2
import Derived.Test.YthihjgnmfnohoaaGreatDoorR1P1
import Derived.Test.YthihjgnmfnohoaaGreatDoorR1P1
import Derived.Test.YthihjgnmfnohoaaGreatDoorR1P1
import Derived.Test.YthihjgnmfnohoaaGreatDoorR1P2
import Derived.Test.YthihjgnmfnohoaaGreatDoorR1P1
import Derived.Test.YthihjgnmfnohoaaGreatDoorR1P2
set_option linter.all false
noncomputable section
namespace Go.Proofs
open Go Go.RowKit Go.Vm
open Option renaming some→C
variable {n:Qh}{m:L_ QBg}{c:Qz}{x a v:Int}{b:QBg}{e:Qn}{l:L_ QR}{i:Nat}{env:LI_}{o:Qo}{p:Qg}
def QqT (n1:Qh)(k2:Int)(h:KP n1 k2=C 0):∃t,idx n1.Tasks k2=C t/\DH t=C true:=by
 unfold KP at h;obtain⟨x5,_,h⟩:=QU h;rcases XU h with⟨_,h⟩|⟨_,h⟩
 ·cases h
 obtain⟨x7,_,h⟩:=QU h;rcases XU h with⟨c,h⟩|⟨_,h⟩
 ·simp only[Option.some.injEq]at h;rw[h]at c;cases c
 obtain⟨e9,he9,h⟩:=QU h;obtain⟨e10,he10,h⟩:=QU h;rw[he9]at he10;cases he10;obtain⟨_,_,h⟩:=QU h;obtain⟨_,_,h⟩:=QU h;obtain⟨_,_,h⟩:=QU h;obtain⟨_,_,h⟩:=QU h;obtain⟨x15,O,h⟩:=QU h;have bad:∀a b:Int,(a=-1->b≠0)->(a≠-1->a≠0)->x15=(a,b)->False:=λa b ha hb e=>by
  subst e;simp only at h;rcases XU h with⟨c,h⟩|⟨c,h⟩
  ·simp only[beq_iff_eq]at c;simp only[Option.some.injEq]at h;exact ha c h
  simp only[beq_eq_false_iff_ne]at c;simp only[Option.some.injEq]at h;exact hb c h
 have ne:∀{x:Int},(x==0)=false->x≠0:=λ{x} h=>by simpa using h
 unfold Ek at O;obtain⟨x20,_,O⟩:=QU O;rcases XU O with⟨_,O⟩|⟨_,O⟩
 ·exact(bad _ _ (λh=>absurd h (by decide)) (λ_=>by decide) (Option.some.inj O).symm).elim
 obtain⟨x22,_,O⟩:=QU O;rcases XU O with⟨_,O⟩|⟨_,O⟩
 ·exact(bad _ _ (λh=>absurd h (by decide)) (λ_=>by decide) (Option.some.inj O).symm).elim
 obtain⟨x24,h24,O⟩:=QU O;rcases XU O with⟨_,O⟩|⟨c,O⟩
 ·exact(bad _ _ (λh=>absurd h (by decide)) (λ_=>by decide) (Option.some.inj O).symm).elim
 obtain⟨x26,h26,O⟩:=QU O;unfold Ck at h26;obtain⟨y,_,h26⟩:=QU h26;rw[<-Option.some.inj h26]at O;rcases XU O with⟨c,O⟩|⟨_,O⟩
 ·exact(bad _ _ (λ_=>ne (by simpa using c)) (λh=>absurd rfl h) (Option.some.inj O).symm).elim
 obtain⟨x28,_,O⟩:=QU O;rcases XU O with⟨_,O⟩|⟨_,O⟩
 ·exact(bad _ _ (λh=>absurd h (by decide)) (λ_=>by decide) (Option.some.inj O).symm).elim
 obtain⟨x30,_,O⟩:=QU O;rcases XU O with⟨_,O⟩|⟨_,O⟩
 ·exact(bad _ _ (λh=>absurd h (by decide)) (λ_=>by decide) (Option.some.inj O).symm).elim
 obtain⟨x32,h32,O⟩:=QU O;unfold EV at h32;obtain⟨y2,_,h32⟩:=QU h32;rw[<-Option.some.inj h32]at O;rcases XU O with⟨c,O⟩|⟨_,O⟩
 ·exact(bad _ _ (λ_=>ne (by simpa using c)) (λh=>absurd rfl h) (Option.some.inj O).symm).elim
 obtain⟨x34,h34,O⟩:=QU O;unfold EW at h34;obtain⟨y3,_,h34⟩:=QU h34;rw[<-Option.some.inj h34]at O;rcases XU O with⟨c,O⟩|⟨_,O⟩
 ·exact(bad _ _ (λ_=>ne (by simpa using c)) (λh=>absurd rfl h) (Option.some.inj O).symm).elim
 obtain⟨x36,h36,O⟩:=QU O;unfold EX at h36;obtain⟨y4,_,h36⟩:=QU h36;rw[<-Option.some.inj h36]at O;rcases XU O with⟨c,O⟩|⟨_,O⟩
 ·exact(bad _ _ (λ_=>ne (by simpa using c)) (λh=>absurd rfl h) (Option.some.inj O).symm).elim
 obtain⟨x38,h38,O⟩:=QU O;rcases XU O with⟨_,O⟩|⟨c,O⟩
 ·exact(bad _ _ (λh=>absurd h (by decide)) (λ_=>by decide) (Option.some.inj O).symm).elim
 unfold Cn at h38;obtain⟨z,hz,h38⟩:=QU h38;cases h38;refine⟨e9,he9,?_⟩;rw[hz];simpa using c
def Qsb (m:Int×Int×Int):Prop:=(m.1=0/\m.2.1=0/\m.2.2=0)\/(1<=m.1/\m.1<=m.2.1/\m.2.1<=16/\1<=m.2.2/\m.2.2<=m.2.1)
def Qpg {t:QW}(h:DH t=C true):(0<=t.After/\t.After<=65536)/\Qsb t.Many:=by
 unfold DH Pn at h;obtain⟨x,O,h⟩:=QU h;cases h;unfold Pm at O;obtain⟨_,_,O⟩:=QU O;rcases XU O with⟨_,O⟩|⟨_,O⟩
 case inr=>cases O
 obtain⟨_,_,O⟩:=QU O;rcases XU O with⟨_,O⟩|⟨_,O⟩
 case inr=>cases O
 rcases XU O with⟨c1,O⟩|⟨_,O⟩
 case inr=>cases O
 rcases XU O with⟨c2,O⟩|⟨_,O⟩
 case inr=>cases O
 have O:=Option.some.inj O;simp only[KT,QH,QG,beq_iff_eq]at O c1 c2;exact⟨⟨c1,c2⟩,O⟩
def Qsc (n1:Qh)(h:Xo n1){p:TT}(O:Aw n1=C (0,p)):∀t∈n1.Tasks,DH t=C true:=by
 unfold Aw at O;obtain⟨x6,_,O⟩:=QU O;rcases XU O with⟨c,O⟩|⟨_,O⟩
 ·simp only[Option.some.injEq,Prod.mk.injEq]at O;rw[O.1]at c;cases c
 obtain⟨x8,_,O⟩:=QU O;rcases XU O with⟨c,O⟩|⟨_,O⟩
 ·simp only[Option.some.injEq,Prod.mk.injEq]at O;rw[O.1]at c;cases c
 obtain⟨x10,_,O⟩:=QU O;rcases XU O with⟨c,O⟩|⟨_,O⟩
 ·simp only[Option.some.injEq,Prod.mk.injEq]at O;rw[O.1]at c;cases c
 obtain⟨x12,h12,O⟩:=QU O;rcases XU O with⟨c,O⟩|⟨c,O⟩
 ·simp only[Option.some.injEq,Prod.mk.injEq]at O;rw[O.1]at c;cases c
 simp only[KJ]at c;obtain⟨r,hr,hr2⟩:=Qh2 n1.Tasks n1 h h.2.2.1;rw[h12]at hr;cases hr;intro t ht;obtain⟨j,hj,rfl⟩:=Ug.1 ht;obtain⟨t,h1,h2⟩:=QqT n1 j (hr2 c j hj);rw[QQ,QN hj]at h1;cases h1;exact h2
def Qob (n:Qh):Prop:=n.Places.length*48<=140737488351232/\∀p∈n.Places,p.First.length*16<=140737488351232
def Qsd (hr:Qob n):Qk (AP n) λm=>m.length=n.Places.length/\∀b∈m,b.length<=8796093022208:=by
 obtain⟨hp,hf⟩:=hr;unfold AP;refine T0 (Qk.up n.Places.length (λst=>st.1) (λst=>(st.2.length:Int)=st.1/\∀b∈st.2,b.length<=8796093022208) (Q:=λm:L_ Bag=>m.length=n.Places.length/\∀b∈m,b.length<=8796093022208) rfl ⟨rfl,λb h=>by cases h⟩ (λi st hi hn hJ=>?_)) (λq hq=>T2 hq);obtain⟨x,l⟩:=st;replace hi:x=(i:Int):=hi;subst hi;obtain⟨j1,j2⟩:(l.length:Int)=(i:Int)/\∀b∈l,b.length<=8796093022208:=hJ;show Qk (PX n i l) _;unfold PX;refine T1 (λhc=>?_) (λhc=>T2 (Qv ?_))
 ·simp only[QG]at hc;have i1:i<n.Places.length:=by omega
  have hpl:=hf _ (Xs i1);rw[QQ,QN i1,Qa];have hw:Qm ((i:Int)+1)=((i+1:Nat):Int):=Qr i1 (by unfold maxLen;omega:n.Places.length<=maxLen);have k1:∀b:Bag,b.length<=8796093022208->Qk (Uk l i b) λo=>(∀s',o=.inl s'->i<n.Places.length/\s'.1=((i+1:Nat):Int)/\(s'.2.length:Int)=s'.1/\∀b∈s'.2,b.length<=8796093022208)/\∀r:L_ Bag,o=.inr r->r.length=n.Places.length/\∀b∈r,b.length<=8796093022208:=λb hb=>by
   unfold Uk;refine T0 (T5 (by simp;omega)) λ_ _=>?_;refine T2 (QV (ix:=λst:Int×L_ Bag=>st.1) (J:=λst:Int×L_ Bag=>(st.2.length:Int)=st.1/\∀b∈st.2,b.length<=8796093022208) ⟨i1,hw,by show((l++[b]).length:Int)=Qm _;rw[hw];simp;omega,λb' O=>?_⟩);rcases Wr.1 O with O | O
   ·exact j2 b' O
   simp at O;subst O;exact hb
  unfold Kk;rw[YI (by simp;omega)];simp only[Qa,My];refine T1 (λhc2=>?_) λ_=>k1 _ (by omega);rw[show SN ([0]:LI_)=C [(0,1)]from ZN 0,Qa];rcases Ud (n.Places[i]).First [(0,1)] (by simp;omega)with⟨_,e⟩|⟨_,_,_,e⟩|⟨_,_,r,e,h1,_,h2⟩
  ·rw[e,Qa];exact k1 _ (by omega)
  ·rw[e,Qa];exact k1 _ (by omega)
  rw[e,Qa];exact k1 _ (by simp at h2;show r.length<=8796093022208;omega)
 simp only[Xq]at hc;exact⟨by show l.length=_;omega,j2⟩
def Qtq (n1:Qh)(m:L_ QBg)(h:Xo n1)(hm:QX (QX λ_=>True) m)(O:FI n1 m=C true):XE n1/\IY n1 m/\∀t∈n1.Tasks,DH t=C true:=by
 obtain⟨r,hr,hr2⟩:=QrT n1 m h hm;rw[O]at hr;cases hr;obtain⟨h1,h2,h3⟩:=hr2 rfl;refine⟨h1,⟨h2,h3⟩,?_⟩;unfold FI at O;obtain⟨_,_,O⟩:=QU O;obtain⟨_,_,O⟩:=QU O;rcases XU O with⟨_,O⟩|⟨_,O⟩
 ·cases O
 obtain⟨x11,h11,O⟩:=QU O;obtain⟨x12,h12,O⟩:=QU O;unfold RQ at O;rcases XU O with⟨_,O⟩|⟨c,O⟩
 ·cases O
 unfold RO at h12;rcases XU h12 with⟨_,h12⟩|⟨c2,_⟩
 ·cases h12;cases c
 simp only[KJ]at c2;obtain⟨a,b⟩:=x11;simp only at c2;subst c2;exact Qsc n1 h h11
structure Qvo (n:Qh) (m:List Bag):Prop where
 e:EOk n
 c:JF n ⟨m,[],1,0⟩
 k:∀t∈n.Tasks,Qsb t.Many
 t:n.Tasks.length<=6
 p:m.length<=12
def Quw : QcY []=C true:=by kernel_rfl
def Qtr (hn:Xo n){m:L_ Bag}(hm:AP n=C m)(hl:QX (QX λ_=>True) m):Qk (RV n ⟨m,[],1,0⟩) λr=>r=true->Qvo n m:=by
 unfold RV;simp only;rw[Quw,Qa];refine T1 (λ_=>T2 λh=>by cases h) λhc=>?_;have hp:m.length<=12:=by
  simp only[KS,Xq]at hc;omega
 rw[hm,Qa];refine T0 (QrT n m hn hl).self λf hf=>?_;refine T1 (λ_=>T2 λh=>by cases h) λhc2=>?_;simp only[KS,Bk,Xq]at hc2;obtain⟨c1,c2⟩:=hc2;subst c1;obtain⟨h1,h2,h3⟩:=Qtq n m hn hl hf.1;refine T0 (P:=λq=>q=.inr ()->∀t∈n.Tasks,t.Join≠3) ?_ λq hq=>?_
 ·refine Qk.up n.Tasks.length (λst=>st) (λst=>∀(j:Nat) t,(j:Int)<st->n.Tasks[j]? = C t->t.Join≠3) rfl (λj t hj=>by omega) (λi st hi hn2 hJ=>?_);replace hi:st=(i:Int):=hi;subst hi;show Qk (RT n i) _;unfold RT;refine T1 (λhc=>?_) (λhc=>T2 (Qv λ_ t O=>?_))
  ·simp only[QG]at hc;have i1:i<n.Tasks.length:=by omega
   have hx:=QN i1;rw[QQ,hx,Qa];refine T1 (λ_=>T2 (Qv λe=>by cases e)) λhj=>T2 (QV ⟨i1,Qr i1 hn.2.2.1.1,λj t hj2 O=>?_⟩);rw[Qr i1 hn.2.2.1.1]at hj2;by_cases cj:j=i
   ·subst cj;rw[hx]at O;cases O;simpa using hj
   exact hJ j t (by omega) O
  simp only[Xq]at hc;obtain⟨j,hj,rfl⟩:=Ug.1 O;exact hJ j _ (by omega) (QN hj)
 rcases q with q | q
 ·exact T2 λh=>by cases h
 show Qk (RU _) _;unfold RU;simp only;rw[Qn0 h1 h2.1 (by omega),Qa];refine T2 λ_=>⟨⟨h1,λt O=>(Qpg (h3 t O)).1,hq rfl⟩,⟨h2,⟨by show(1:Int)<=1;omega,by show(1:Int)<=_;omega⟩,⟨by show(0:Int)<=0;omega,by show(0:Int)<=_;omega⟩,rfl,by show 0<=64;omega,λx hx=>by cases hx⟩,λt O=>(Qpg (h3 t O)).2,by omega,hp⟩
def Qux (hn:Xo n)(hr:Qob n):∃m,AP n=C m/\Mb n=C ⟨m,[],1,0⟩/\QX (QX λ_=>True) m:=by
 obtain⟨m,h,h1,O⟩:=Qsd hr;refine⟨m,h,by unfold Mb;rw[h];rfl,⟨by have:=hn.2.1.1;omega,λb hb=>⟨by have:=O b hb;unfold maxLen;omega,λ_ _=>trivial⟩⟩⟩
def Quy (n:Qh)(l:L_ Xh)(hl:l.length<=maxLen):Qk (OC l) λr=>r=true->l.length<=24/\∀k∈l,XL n k.Mode:=by
 unfold OC;refine T1 (λ_=>T2 λh=>by cases h) λO=>?_;simp only[Xq]at O;refine T0 (P:=λq=>q=.inr ()->∀k∈l,XL n k.Mode) ?_ λq hq=>?_
 ·refine Qk.up l.length (λst=>st) (λst=>∀(j:Nat) k,(j:Int)<st->l[j]? = C k->XL n k.Mode) rfl (λj t hj=>by omega) (λi st hi hn2 hJ=>?_);replace hi:st=(i:Int):=hi;subst hi;show Qk (Po l i) _;unfold Po;refine T1 (λO=>?_) (λO=>T2 (Qv λ_ k hk=>?_))
  ·simp only[QG]at O;have i1:i<l.length:=by omega
   have hx:=QN i1;unfold QaV QaW;rw[QQ,hx];simp only[Qa];have go:∀b:Bool,(b=false->XL n l[i].Mode)->Qk (bif b then C (Sum.inr (Sum.inl ()))else C (.inl (Qm ((i:Int)+1)))) λo=>(∀s',o=.inl s'->i<l.length/\s'=((i+1:Nat):Int)/\∀(j:Nat) k,(j:Int)<s'->l[j]? = C k->XL n k.Mode)/\∀r:Unit⊕Unit,o=.inr r->r=.inr ()->∀k∈l,XL n k.Mode:=λb hb=>by
    refine T1 (λ_=>T2 (Qv λe=>by cases e)) λhj=>T2 (QV (ix:=λst:Int=>st) (J:=λst:Int=>∀(j:Nat) k,(j:Int)<st->l[j]? = C k->XL n k.Mode) ⟨i1,Qr i1 hl,λj t hj2 ht=>?_⟩);rw[Qr i1 hl]at hj2;by_cases cj:j=i
    ·subst cj;rw[hx]at ht;cases ht;exact hb hj
    exact hJ j t (by omega) ht
   by_cases c1:20<(l[i].Mode.Vars.length:Int)
   ·rw[Qi c1];exact go true λh=>by cases h
   rw[Qj c1,Qd];by_cases c2:20<(l[i].Mode.Ins.length:Int)
   ·rw[Qi c2];exact go true λh=>by cases h
   rw[Qj c2,Qd,Qa];exact go _ λh=>by simp only[Xq]at h;unfold XL;omega
  simp only[Xq]at O;obtain⟨j,hj,rfl⟩:=Ug.1 hk;exact hJ j _ (by omega) (QN hj)
 rcases q with q | q
 ·exact T2 λh=>by cases h
 exact T2 λ_=>⟨by omega,hq rfl⟩
def Qnl : ∀{ds:LI_} {l:L_ Qg},Up l->ds.Nodup->(∀d∈ds,∃x∈l,x.Id=d)->(ds.foldl dropL l).length+ds.length=l.length
 | [],l,_,_,_=>rfl
 | d::ds,l,hu,h,hi=>by
  rw[Lg]at h;obtain⟨x,hx,rfl⟩:=hi d YY;have h1:=QjE hu hx;have h2:=Qnl (ds:=ds) (hu.drop x.Id) h.2 λe O=>by
   obtain⟨y,hy,rfl⟩:=hi e (Kb _ O);exact⟨y,TB.2 ⟨hy,λe2=>h.1 (by rw[<-e2];exact O)⟩,rfl⟩
  rw[List.foldl_cons,Uf];omega
def Quz (h:XE n)(hc:JF n c):Qtf c:=by
 obtain⟨h1,O,h3,h4⟩:=hc.lens h;have mx:(100000:Nat)<=maxLen:=by decide
 refine⟨by omega,λb hb=>by have:=O b hb;omega,by omega,λx hx=>?_⟩;have:=h4 x hx;exact⟨by omega,by omega,by omega⟩
def Qse (h:Qtf c):Mp c c=C true:=by rw[QqP h];exact congrArg C (@decide_eq_true _ (Classical.propDecidable _) rfl)
def XQ (a:Int):Prop:=-9223372036854775808<=a/\a<=9223372036854775807
instance (a : Int):Decidable (XQ a):=by unfold XQ;infer_instance
def ZP (x:Int):IntKind.u64.wrap x=x % 18446744073709551616:=rfl
def HS (h:0<=x/\x<18446744073709551616):IntKind.u64.wrap x=x:=by rw[ZP];omega
def QlC (h:0<=x):GN .u64 x 32=x / 4294967296:=by
 unfold GN;rw[show min ((32:Int).toNat) (IntKind.bits .u64)=32 from rfl,Int.fdiv_eq_ediv_of_nonneg _ (by decide)];rfl
def QqU (h:0<=x/\x<18446744073709551616):Ge .u64 x 4294967295=x % 4294967296:=by
 unfold Ge;have e:((BitVec.ofInt (IntKind.bits .u64) x &&& BitVec.ofInt (IntKind.bits .u64) 4294967295).toNat:Int)=x % 4294967296:=by
  rw[BitVec.toNat_and,BitVec.toNat_ofInt,BitVec.toNat_ofInt];have O:(x % ((2:Nat) ^ (IntKind.bits .u64):Nat)).toNat=x.toNat:=by
   show(x % 18446744073709551616).toNat=x.toNat;omega
  have h2:((4294967295:Int) % ((2:Nat) ^ (IntKind.bits .u64):Nat)).toNat=2 ^ 32-1:=by decide
  rw[O,h2,Nat.and_two_pow_sub_one_eq_mod];omega
 rw[e];exact HS (by omega)
def QlD {y:Int}(O:0<=x/\x<=4294967295)(h:0<=y/\y<=4294967295):0<=x*y/\x*y<=18446744065119617025:=by
 refine⟨Int.mul_nonneg O.1 h.1,?_⟩;have:=Int.mul_le_mul O.2 h.2 h.1 (by decide);omega
def QqV {y:Int}(h:0<=x/\x<18446744073709551616)(O:0<=y/\y<18446744073709551616):GE x y=C (x*y / 18446744073709551616,x*y % 18446744073709551616):=by
 unfold GE;rw[QlC h.1,QlC O.1,QqU h,QqU O,ZP (x*y)];have e:x*y=(x / 4294967296)*(y / 4294967296)*18446744073709551616+((x / 4294967296)*(y % 4294967296)+(x % 4294967296)*(y / 4294967296))*4294967296+(x % 4294967296)*(y % 4294967296):=by
  have h1:x=(x / 4294967296)*4294967296+x % 4294967296:=by omega
  have h2:y=(y / 4294967296)*4294967296+y % 4294967296:=by omega
  generalize x / 4294967296=a at *;generalize x % 4294967296=b at *;generalize y / 4294967296=c at *;generalize y % 4294967296=d at *;subst h1 h2
  grind
 rw[e];have b1:=QlD (x:=x / 4294967296) (y:=y / 4294967296) (by omega) (by omega);have b2:=QlD (x:=x / 4294967296) (y:=y % 4294967296) (by omega) (by omega);have b3:=QlD (x:=x % 4294967296) (y:=y / 4294967296) (by omega) (by omega);have b4:=QlD (x:=x % 4294967296) (y:=y % 4294967296) (by omega) (by omega);generalize x / 4294967296*(y / 4294967296)=p at *;generalize x / 4294967296*(y % 4294967296)=q at *;generalize x % 4294967296*(y / 4294967296)=r at *;generalize x % 4294967296*(y % 4294967296)=s at *;rw[HS (x:=s) (by omega),QlC (x:=s) (by omega),HS (x:=q) (by omega),HS (x:=q+s / 4294967296) (by omega),QlC (x:=q+s / 4294967296) (by omega),QqU (x:=q+s / 4294967296) (by omega),HS (x:=r) (by omega),HS (x:=p) (by omega),
  HS (x:=(q+s / 4294967296) % 4294967296+r) (by omega),QlC (x:=(q+s / 4294967296) % 4294967296+r) (by omega),HS (x:=p+(q+s / 4294967296) / 4294967296) (by omega),HS (by omega)]
 congr 2;omega
def Ew (a:Int):Int:=if a<0 then -a else a
def Qnm (h:XQ a):CA a=C (Ew a):=by
 unfold CA Ew XQ at *;by_cases c:a<0
 ·rw[Qi c,Qq,if_pos c,ZP,ZP];congr 1;omega
 rw[Qj c,Qd,if_neg c,ZP];congr 1;omega
def Qp2 (a b:Int):Ew a*Ew b=Ew (a*b):=by
 unfold Ew;by_cases h:a<0<;>by_cases O:b<0
 ·rw[if_pos h,if_pos O,if_neg (by have:=Int.mul_pos_of_neg_of_neg h O;omega),Int.neg_mul_neg]
 ·rw[if_pos h,if_neg O];by_cases c3:b=0
  ·subst c3;simp
  rw[if_pos (Int.mul_neg_of_neg_of_pos h (by omega)),Int.neg_mul]
 ·rw[if_neg h,if_pos O];by_cases c3:a=0
  ·subst c3;simp
  rw[if_pos (Int.mul_neg_of_pos_of_neg (by omega) O),Int.mul_neg]
 rw[if_neg h,if_neg O,if_neg (by have:=Int.mul_nonneg (show 0<=a by omega) (show 0<=b by omega);omega)]
def TD (a b:Int):Int×Int:=if XQ (a*b)then(a*b,0)else(0,6)
def QgG {b:Int}(ha:XQ a)(hb:XQ b):AA a b=C (TD a b):=by
 unfold AA;have h1:0<=Ew a/\Ew a<=9223372036854775808:=by unfold Ew XQ at *;split<;>omega
 have h2:0<=Ew b/\Ew b<=9223372036854775808:=by unfold Ew XQ at *;split<;>omega
 have h3:0<=Ew a*Ew b:=Int.mul_nonneg h1.1 h2.1;rw[Qnm ha,Qa,Qnm hb,Qa,QqV (by omega) (by omega),Qa];rw[Qp2]at h3 ⊢;have sg:(decide (a<0) != decide (b<0))=true\/(decide (a<0) != decide (b<0))=false:=by cases (decide (a<0) != decide (b<0))<;>simp
 have hsg:(decide (a<0) != decide (b<0))=true->a*b<=0:=λh=>by
  by_cases c1:a<0<;>by_cases c2:b<0<;>simp[c1,c2]at h
  ·exact Int.mul_nonpos_of_nonpos_of_nonneg (by omega) (by omega)
  exact Int.mul_nonpos_of_nonneg_of_nonpos (by omega) (by omega)
 have hsg2:(decide (a<0) != decide (b<0))=false->0<=a*b:=λh=>by
  by_cases c1:a<0<;>by_cases c2:b<0<;>simp[c1,c2]at h
  ·have:=Int.mul_pos_of_neg_of_neg c1 c2;omega
  exact Int.mul_nonneg (by omega) (by omega)
 have hw:XQ (a*b)->Qm (a*b)=a*b:=λh=>Xj h;generalize hm:a*b=m at *;unfold TD;rw[hm];unfold Ew at h3 ⊢;rcases sg with c | c
 ·rw[c,Qq];have:=hsg c;unfold De;rw[hm,ZP];simp only;by_cases O:XQ m
  ·rw[if_pos O,hw O];unfold XQ at O;rw[Qj (by split<;>omega),Qj (by split<;>omega)];rfl
  rw[if_neg O];have:decide (0<(if m<0 then -m else m) / 18446744073709551616)=true\/decide ((9223372036854775807+1) % 18446744073709551616<(if m<0 then -m else m) % 18446744073709551616)=true:=by
   unfold XQ at O;rw[QG,QG];split<;>omega
  rcases this with h | h
  ·rw[h];rfl
  rw[h,Bool.or_true];rfl
 rw[c,Qd];have:=hsg2 c;unfold De;rw[hm];simp only;by_cases O:XQ m
 ·rw[if_pos O,hw O];unfold XQ at O;rw[Qj (by split<;>omega),Qj (by split<;>omega)];rfl
 rw[if_neg O];have:decide (0<(if m<0 then -m else m) / 18446744073709551616)=true\/decide ((9223372036854775807:Int)<(if m<0 then -m else m) % 18446744073709551616)=true:=by
  unfold XQ at O;rw[QG,QG];split<;>omega
 rcases this with h | h
 ·rw[h];rfl
 rw[h,Bool.or_true];rfl
def Qph (a b:Int):Int×Int:=if XQ (a+b)then(a+b,0)else(0,6)
def Qts {b:Int}(ha:XQ a)(hb:XQ b):Hp a b=C (Qph a b):=by
 unfold Hp Qph;by_cases ci:XQ (a+b)
 ·rw[if_pos ci,Xj ci];have:((decide (a<0)==decide (b<0))&&(decide (a+b<0) != decide (a<0)))=false:=by
   by_cases h:a<0<;>by_cases O:b<0<;>simp[h,O]<;>omega
  rw[this];rfl
 rw[if_neg ci];have hw:Qm (a+b)=if a+b<0 then a+b+18446744073709551616 else a+b-18446744073709551616:=by
  rw[Tu];unfold wrap64 XQ at *;split<;>omega
 have:((decide (a<0)==decide (b<0))&&(decide (Qm (a+b)<0) != decide (a<0)))=true:=by
  rw[hw];unfold XQ at *;by_cases h:a<0<;>by_cases O:b<0<;>by_cases c3:a+b<0<;>simp[h,O,c3]<;>omega
 rw[this];rfl
def Qvp {b:Int}(h:XQ a)(O:XQ b):JY 3 a b=C (TD a b):=by
 unfold JY;rw[show((3:Int)==1)=false from rfl,Qd,show((3:Int)==2)=false from rfl,Qd,show((3:Int)==3)=true from rfl,Qq,QgG h O];rfl
def Qvq {b:Int}(h:XQ a)(O:XQ b):JY 1 a b=C (Qph a b):=by
 unfold JY;rw[show((1:Int)==1)=true from rfl,Qq,Qts h O];rfl
def QuA {b:Int}(O:XQ a)(hb:XQ b):DI 1 a b=C (Qph a b):=by
 unfold DI;show(TY a b).bind _=_;unfold TY Qph;have h:(bif (decide (0<b))then((decide ((Qm (9223372036854775807-b))<a))||((decide (b<0))&&(decide (a<(Qm ((-9223372036854775808)-b))))))else((decide (b<0))&&(decide (a<(Qm ((-9223372036854775808)-b))))))=decide (¬XQ (a+b)):=by
  unfold XQ at *;by_cases b1:0<b
  ·rw[Qi b1,Qq,Qj (by omega:¬b<0),TG,QbD,Xj (by omega)];exact decide_eq_decide.2 (by omega)
  rw[Qj b1,Qd];by_cases b2:b<0
  ·rw[Qi b2,TH,Xj (by omega)];exact decide_eq_decide.2 (by omega)
  rw[Qj b2,TG,eq_comm,Xq];omega
 rw[h];by_cases c:XQ (a+b)
 ·rw[Qj (by simpa using c),Qd,Xj c,if_pos c];rfl
 rw[Qi c,Qq,if_neg c];rfl
def Qsf {y b:Int}(hx:0<=x/\x<=9223372036854775807)(hy:0<y/\y<=9223372036854775807)(ha:x=Ew a)(hb:y=Ew b)(ha0:a≠0):(FL x a b y).bind (λx16=>BQ x16.1 x16.2)=C (TD a b):=by
 have hm:x*y=Ew (a*b):=by rw[ha,hb,Qp2]
 unfold FL;rw[Am (by simpa using (by omega:y≠0)),Qa,Int.tdiv_eq_ediv_of_nonneg (by decide)];have d1:0<=9223372036854775807 / y:=Int.ediv_nonneg (by decide) (by omega);have d2:9223372036854775807 / y<=9223372036854775807:=Int.ediv_le_self _ (by decide);rw[Xj (by omega)];have le1:x<=9223372036854775807 / y↔x*y<=9223372036854775807:=Int.le_ediv_iff_mul_le hy.1;by_cases c:x<=9223372036854775807 / y
 ·have:=le1.1 c;have hin:XQ (a*b):=by unfold XQ Ew at *;split at hm<;>omega
  rw[Qi c,Qq,Xj hin];unfold TD;rw[if_pos hin];rfl
 have:=λh=>c (le1.2 h);rw[Qj c,Qd];unfold Qdt;have sg:(bif (decide (a<0))then((decide (0<b))||((decide (0<a))&&(decide (b<0))))else((decide (0<a))&&(decide (b<0))))=decide (a*b<0):=by
  have hb0:b≠0:=by intro h;subst h;unfold Ew at hb;simp at hb;omega
  by_cases c1:a<0<;>by_cases c2:b<0
  ·have:=Int.mul_pos_of_neg_of_neg c1 c2;rw[Qi c1,Qj (by omega:¬0<b),Qj (by omega:¬0<a),Qj (by omega:¬a*b<0)];rfl
  ·have:=Int.mul_neg_of_neg_of_pos c1 (by omega:0<b);rw[Qi c1,Qi (by omega:0<b),Qi this];rfl
  ·have:=Int.mul_neg_of_pos_of_neg (by omega:0<a) c2;rw[Qj c1,Qi (by omega:0<a),Qi c2,Qi this];rfl
  have:=Int.mul_nonneg (by omega:0<=a) (by omega:0<=b);rw[Qj c1,Qj c2,Qj (by omega:¬a*b<0),Bool.and_false];rfl
 rw[sg];by_cases c3:a*b<0
 ·rw[Qi c3,Qq,Am (by simpa using (by omega:y≠0)),Qa,Xj (by omega:-9223372036854775808<=y-1/\y-1<=9223372036854775807),Xj (by omega:-9223372036854775808<=9223372036854775807-(y-1)/\9223372036854775807-(y-1)<=9223372036854775807),Xj (by omega:-9223372036854775808<=x-1/\x-1<=9223372036854775807),Int.tdiv_eq_ediv_of_nonneg (by omega)];have d3:0<=(9223372036854775807-(y-1)) / y:=Int.ediv_nonneg (by omega) (by omega);have d4:(9223372036854775807-(y-1)) / y<=9223372036854775807-(y-1):=Int.ediv_le_self _ (by omega);rw[Xj (by omega)];have O:x-1<=(9223372036854775807-(y-1)) / y↔(x-1)*y<=9223372036854775807-(y-1):=Int.le_ediv_iff_mul_le hy.1;have e3:(x-1)*y=x*y-y:=by rw[Int.sub_mul,Int.one_mul]
  rw[e3]at O;unfold Ew at hm;rw[if_pos c3]at hm;unfold TD;by_cases c4:x-1<=(9223372036854775807-(y-1)) / y
  ·have h4:=O.1 c4;have e4:x*y=9223372036854775808:=by omega
   rw[Qi c4,Qq,e4,if_pos (by unfold XQ;omega),show a*b=-9223372036854775808 by omega];rfl
  have h4:=λh=>c4 (O.2 h);rw[Qj c4,Qd,if_neg (by unfold XQ;omega)];rfl
 rw[Qj c3,Qd];unfold Ew at hm;rw[if_neg c3]at hm;unfold TD;rw[if_neg (by unfold XQ;omega)];rfl
def QuB {b:Int}(ha:XQ a)(hb:XQ b):DI 3 a b=C (TD a b):=by
 unfold DI;show(Va a b).bind _=_;unfold Va;by_cases z:a=0\/b=0
 ·rw[show((a==0)||(b==0))=true by simpa using z,Qq];have:a*b=0:=Int.mul_eq_zero.2 z;unfold TD;rw[this];rfl
 rw[show((a==0)||(b==0))=false by simpa using z,Qd];simp only[not_or]at z;by_cases m:a=-9223372036854775808\/b=-9223372036854775808
 ·rw[show((a==(-9223372036854775808))||(b==(-9223372036854775808)))=true by simpa using m,Qq];by_cases o:a=1\/b=1
  ·rw[show((a==1)||(b==1))=true by simpa using o,Qq];have h:XQ (a*b):=by
    rcases o with rfl | rfl
    ·rwa[Int.one_mul]
    rwa[Int.mul_one]
   rw[Xj h];unfold TD;rw[if_pos h];rfl
  rw[show((a==1)||(b==1))=false by simpa using o,Qd];simp only[not_or]at o;have h:¬XQ (a*b):=by
   unfold XQ;rcases m with rfl | rfl
   ·omega
   omega
  unfold TD;rw[if_neg h];rfl
 rw[show((a==(-9223372036854775808))||(b==(-9223372036854775808)))=false by simpa using m,Qd];simp only[not_or]at m;unfold XQ at ha hb;have k4:∀x,0<=x/\x<=9223372036854775807->x=Ew a->(FM b a x).bind (λO=>BQ O.1 O.2)=C (TD a b):=λx hx he=>by
  unfold FM;by_cases c:b<0
  ·rw[Qi c,Qq,Xj (by omega)];exact Qsf hx (by omega) he (by unfold Ew;rw[if_pos c];omega) z.1
  rw[Qj c,Qd];exact Qsf hx (by omega) he (by unfold Ew;rw[if_neg c]) z.1
 by_cases c:a<0
 ·rw[Qi c,Qq,Xj (by omega)];exact k4 _ (by omega) (by unfold Ew;rw[if_pos c];omega)
 rw[Qj c,Qd];exact k4 _ (by omega) (by unfold Ew;rw[if_neg c])
def eqO {o p:O_ QLL}(h:decide (o=p)=true):o=p:=Xc h
set_option maxRecDepth 100000 in
def Qpi (O h:Int):Cq O h=YT O h:=by
 by_cases hg:((decide (h<0))||((decide (16<h))||((O==3)&&(decide (4<h)))))=true
 ·unfold YT Cq;rw[hg,Qq,Qq]
 have hg':=hg;simp only[KT,QH,QG,beq_iff_eq,not_or,not_and]at hg;obtain⟨h0,h1,h2⟩:=hg;by_cases e1:O=1
 ·subst e1;rcases Qo0 h0 h1 with rfl | rfl | rfl | rfl | rfl | rfl | rfl | rfl | rfl | rfl | rfl | rfl | rfl | rfl | rfl | rfl | rfl<;>exact eqO (by kernel_rfl)
 by_cases e2:O=2
 ·subst e2;rcases Qo0 h0 h1 with rfl | rfl | rfl | rfl | rfl | rfl | rfl | rfl | rfl | rfl | rfl | rfl | rfl | rfl | rfl | rfl | rfl<;>exact eqO (by kernel_rfl)
 by_cases e3:O=3
 ·subst e3;have h3:=h2 rfl;have:h=0\/h=1\/h=2\/h=3\/h=4:=by omega
  rcases this with rfl | rfl | rfl | rfl | rfl<;>exact eqO (by kernel_rfl)
 have f1:(O==1)=false:=by simpa using e1
 have f2:(O==2)=false:=by simpa using e2
 have f3:(O==3)=false:=by simpa using e3
 have t0:∃l,Qt (λst=>Vt h st.1 st.2) (0,([]:LI_))=C l:=by
  rcases Qo0 h0 h1 with rfl | rfl | rfl | rfl | rfl | rfl | rfl | rfl | rfl | rfl | rfl | rfl | rfl | rfl | rfl | rfl | rfl<;>exact Option.isSome_iff_exists.1 (by kernel_rfl)
 obtain⟨l,hl⟩:=t0;rw[Hj]at hg';unfold YT Cq;rw[hg',Qd,Qd,hl,Qa];unfold SD;rw[f1,f2,f3];rfl
def QuC {b:Int}(ha:XQ a)(hb:XQ b):DI 2 a b=JY 2 a b:=by
 unfold DI JY;show(TZ a b).bind _=(Dd a b).bind _;unfold TZ Dd;have h:(bif (decide (b<0))then((decide ((Qm (9223372036854775807+b))<a))||((decide (0<b))&&(decide (a<(Qm ((-9223372036854775808)+b))))))else((decide (0<b))&&(decide (a<(Qm ((-9223372036854775808)+b))))))=decide (¬XQ (a-b)):=by
  unfold XQ at *;by_cases b1:b<0
  ·rw[Qi b1,Qq,Qj (by omega:¬0<b),TG,QbD,Xj (by omega)];exact decide_eq_decide.2 (by omega)
  rw[Qj b1,Qd];by_cases b2:0<b
  ·rw[Qi b2,TH,Xj (by omega)];exact decide_eq_decide.2 (by omega)
  rw[Qj b2,TG,eq_comm,Xq];omega
 have O:(((decide (a<0)) != (decide (b<0)))&&((decide ((Qm (a-b))<0)) != (decide (a<0))))=decide (¬XQ (a-b)):=by
  have e:Qm (a-b)=wrap64 (a-b):=Tu _;rw[e];unfold wrap64 XQ at *;apply IZ.2;simp only[QH,bne_iff_ne,ne_eq,decide_eq_decide,QG];omega
 rw[h,O];by_cases c:XQ (a-b)
 ·rw[Qj (by simpa using c),Qd,Qd];rfl
 rw[Qi c,Qq,Qq];rfl
def Qsg {op b:Int}(h:XQ a)(O:XQ b):DI op a b=JY op a b:=by
 by_cases h1:op=1
 ·subst h1;rw[QuA h O,Qvq h O]
 by_cases h2:op=2
 ·subst h2;exact QuC h O
 by_cases h3:op=3
 ·subst h3;rw[QuB h O,Qvp h O]
 unfold DI JY;have b1:(op==1)=false:=by simpa using h1
 have b2:(op==2)=false:=by simpa using h2
 have b3:(op==3)=false:=by simpa using h3
 have y:∀c:Bool,Gn c=C (bif c then 1 else 0)/\Ke c=C (bif c then 1 else 0,0):=λc=>by cases c<;>exact⟨rfl,rfl⟩
 rw[b1,b2,b3];simp only[Qd];by_cases h4:op=4
 ·subst h4;unfold BR We;rw[show((4:Int)==4)=true from rfl,Qq,Qq,Qq];by_cases c:b=0
  ·subst c;rfl
  rw[show(b==0)=false by simpa using c,Qd,Qd,Am (by simpa using c)];cases ((a==(-9223372036854775808))&&(b==(-1)))<;>rfl
 by_cases h5:op=5
 ·subst h5;unfold BR We;rw[show((5:Int)==4)=false from rfl,show((5:Int)==5)=true from rfl,Qd,Qq,Qq,Qd,Qd];by_cases c:b=0
  ·subst c;rfl
  rw[show(b==0)=false by simpa using c,Qd,Qd,Am (by simpa using c)];cases ((a==(-9223372036854775808))&&(b==(-1)))<;>rfl
 have b4:(op==4)=false:=by simpa using h4
 have b5:(op==5)=false:=by simpa using h5
 rw[b4,b5];unfold BR QeU QeV QeW QeX Rj Qau Rk Qav;simp only[Qd,λc=>(y c).1,λc=>(y c).2,Qa];cases (op==6)<;>cases (op==7)<;>cases (op==8)<;>cases (op==9)<;>cases (op==10)<;>cases (op==11)<;>cases (a != 0)<;>rfl
def Qoc (x:Int):XQ (Qm x):=by
 have e:Qm x=wrap64 x:=Tu _;rw[e];unfold wrap64 XQ;omega
def QtF {op b:Int}(ha:XQ a)(hb:XQ b){r:Int×Int}(h:JY op a b=C r):XQ r.1:=by
 have z:XQ 0:=by unfold XQ;omega
 have o:XQ 1:=by unfold XQ;omega
 have y:∀c:Bool,∃n,Ke c=C (n,0)/\XQ n:=λc=>by cases c;exact⟨0,rfl,z⟩;exact⟨1,rfl,o⟩
 have yy:∀(c:Bool) {r:Int×Int},((Ke c).bind λx=>C (x.1,x.2))=C r->XQ r.1:=λc r h=>by
  obtain⟨n,e,hn⟩:=y c;rw[e]at h;cases h;exact hn
 have tm:XQ (Int.tmod a b):=by
  by_cases hb0:b=0
  ·subst hb0;rw[Int.tmod_zero];exact ha
  unfold XQ at *;have h2:(Int.tmod a b).natAbs<b.natAbs:=by rw[Int.natAbs_tmod];exact Nat.mod_lt _ (by omega)
  omega
 have q:∀{r:Int×Int×Int},We a b=C r->XQ r.1/\XQ r.2.1:=λ{r} h=>by
  unfold We at h;rcases XU h with⟨_,h⟩|⟨_,h⟩
  ·cases h;exact⟨z,z⟩
  rcases XU h with⟨_,h⟩|⟨_,h⟩
  ·cases h;exact⟨z,z⟩
  obtain⟨_,_,h⟩:=QU h;obtain⟨_,_,h⟩:=QU h;cases h;exact⟨Qoc _,tm⟩
 unfold JY at h;rcases XU h with⟨_,h⟩|⟨_,h⟩
 ·obtain⟨x,O,h⟩:=QU h;cases h;unfold Hp at O;rcases XU O with⟨_,h⟩|⟨_,h⟩<;>cases h
  ·exact z
  exact Qoc _
 rcases XU h with⟨_,h⟩|⟨_,h⟩
 ·obtain⟨x,O,h⟩:=QU h;cases h;unfold Dd at O;rcases XU O with⟨_,h⟩|⟨_,h⟩<;>cases h
  ·exact z
  exact Qoc _
 rcases XU h with⟨_,h⟩|⟨_,h⟩
 ·obtain⟨x,O,h⟩:=QU h;cases h;rw[QgG ha hb]at O;unfold TD at O;split at O<;>cases O
  ·assumption
  exact z
 rcases XU h with⟨_,h⟩|⟨_,h⟩
 ·obtain⟨x,O,h⟩:=QU h;cases h;exact(q O).1
 rcases XU h with⟨_,h⟩|⟨_,h⟩
 ·obtain⟨x,O,h⟩:=QU h;cases h;exact(q O).2
 iterate 4
  rcases XU h with⟨_,h⟩|⟨_,h⟩
  ·exact yy _ h
 rcases XU h with⟨_,h⟩|⟨_,h⟩
 ·obtain⟨x,O,h⟩:=QU h;cases h;unfold Rj at O;rcases XU O with⟨_,h⟩|⟨_,h⟩<;>exact yy _ h
 rcases XU h with⟨_,h⟩|⟨_,h⟩
 ·obtain⟨x,O,h⟩:=QU h;cases h;unfold Rk at O;rcases XU O with⟨_,h⟩|⟨_,h⟩<;>exact yy _ h
 cases h;exact z
def Qsh {α:Type}{l:L_ α}(p:α->Bool){body:Int->O_ (Int⊕(Int⊕Unit))}(O:∀(i:Nat) x,i<l.length->l[i]? = C x->body (i:Int)=C (bif p x then .inr (.inl (i:Int))else .inl ((i+1:Nat):Int)))(h:body (l.length:Int)=C (.inr (.inr ()))):
  Qt body 0=C ((Kg (λ_ x=>p x) 0 l).elim (Sum.inr ()) λi=>Sum.inl (i:Int)):=
 Vy (λi:Nat=>(i:Int)) (λ_ x=>p x) (λi=>Sum.inl (i:Int)) (Sum.inr ()) O h rfl
def QtG {α:Type}(p:α->Bool)(l:L_ α):decide (0<=(Kg (λ_ x=>p x) 0 l).elim (-1:Int) λi=>(i:Int))=l.any p:=by
 cases h:Kg (λ_ x=>p x) 0 l with
 | none=>
  have:=Qlg h;symm;rw[show decide ((0:Int)<=(none:O_ Nat).elim (-1:Int) λi=>(i:Int))=false from rfl,List.any_eq_false];intro x hx;obtain⟨i,hi⟩:=Lc.1 hx;simpa using this i x hi
 | some n=>
  obtain⟨i,x,h1,O,h3⟩:=ZL h;symm;rw[show decide ((0:Int)<=(C n).elim (-1:Int) λi=>(i:Int))=true from Qi (Int.natCast_nonneg n),Oj];exact⟨x,Xx O,h3⟩
def Qp3 {α:Type}(f:α->Bool):∀(l:L_ α) (k:Nat) (t:Bool),EF (λ(_:Nat) (t:Bool) x=>(bif t then .inl (f x)else .inr t:Bool⊕Bool)) (λt=>t) k t l=(t&&l.all f)
 | [],_,t=>by simp[EF]
 | x::l,k,t=>by
  rw[EF];cases t with
  | true=>rw[Qq,Sum.elim_inl,Qp3 f l];simp
  | false=>rfl
def QqW (n:Nat)(e:Qn):Gz n e=KW n e:=by
 have:∀n,Gz n=KW n:=λn=>by
  induction n with
  | zero=>rfl
  | succ n h=>
   funext e;show RZ (Gz n) e=ML (KW n) e;rw[h];rfl
 rw[this]
def Qsi (n:Nat)(e:Qn):Eo n e=WG n e:=by
 have:∀n,Eo n=WG n:=λn=>by
  induction n with
  | zero=>rfl
  | succ n h=>
   funext e;show Tl (Eo n) e=Ou (WG n) e;rw[h];rfl
 rw[this]
def QqX {O:Qn->Int->O_ Bool}{p:Qn->Bool}(hl:e.Kids.length<=maxLen)(h:∀k∈e.Kids,O k v=C (p k))(ok:Bool):KI e O v ok=C (ok&&e.Kids.all p):=by
 unfold KI;rw[Mq (body:=λst=>Ep e O v st.1 st.2) (l:=e.Kids) (λi (t:Bool)=>(t,(i:Int))) (λ_ t x=>bif t then .inl (p x)else .inr t) (λt=>t) (λi t x hi hx=>by
  show Ep e O v t (i:Int)=_;unfold Ep;rw[Qi (by omega),TH];cases t with
  | false=>rfl
  | true=>rw[Qq,QQ,hx,Qa,h x (Xx hx),Qa,Qr hi hl];rfl) (λt=>by
  show Ep e O v t (e.Kids.length:Int)=_;unfold Ep;rw[Qj (by omega),TG];rfl) ok (s0:=(ok,0)) rfl,Qp3]
 rfl
def Qsj {l:L_ Qn}{O:Qn->Int->O_ Bool}{p:Qn->Bool}(hl:l.length<=maxLen)(h:∀k∈l,O k v=C (p k)):XO O l v=C (!(l.all p)):=by
 unfold XO JM;rw[Qsh (l:=l) (λk=>!p k) (λi x hi hx=>by
  show XN l O v i=_;unfold XN MM;rw[Qi (by omega),Qq,QQ,hx,Qa,h x (Xx hx),Qa,Qa,Qr hi hl];cases p x<;>rfl) (by
  show XN l O v l.length=_;unfold XN;rw[Qj (by omega),Qd])]
 have e:(!(l.all p))=l.any λk=>!p k:=by rw[List.all_eq_not_any_not,Bool.not_not]
 rw[e,<-QtG];cases Kg (λ_ k=>!p k) 0 l<;>rfl
def QlE : ∀(n:Nat) (e:Qn) (v:Int),Wp e->SizeOf.sizeOf e<=n->GA n e v=YS n e v
 | 0,e,_,_,h=>absurd e.pos (by omega)
 | n+1,e,v,he,h=>by
  have hkl:=(WD he).1;have tot:∀k∈e.Kids,YS n k v=C ((YS n k v).getD false):=λk hk=>by
   obtain⟨r,hr,_⟩:=Py n k v ((WD he).2 k hk) (by have:=Vz hk;omega);rw[hr];rfl
  have tot2:∀k∈e.Kids,GA n k v=C ((YS n k v).getD false):=λk hk=>by
   rw[QlE n k v ((WD he).2 k hk) (by have:=Vz hk;omega)];exact tot k hk
  show LC (GA n) e v=Fl (YS n) e v;have k3:=QqX hkl tot2;generalize hp:(λk=>(YS n k v).getD false)=p at *;have c3:XO (YS n) e.Kids v=C (!(e.Kids.all p)):=Qsj hkl λk hk=>by rw[<-hp];exact tot k hk
  unfold LC HJ Qa8 Qa9 Fl Re Rf VO Mc NT Az Ay;rw[c3];simp only[k3,Qa];by_cases h1:e.Kind=1
  ·simp only[h1,show((1:Int)==1)=true from rfl,show((1:Int)==2)=false from rfl,show((1:Int)==5)=false from rfl,Qq,Qd,Qa,TG];by_cases c:(e.Kids.length:Int)=0
   ·rw[show((e.Kids.length:Int)==0)=true by simpa using c,show((e.Kids.length:Int) != 0)=false by simpa using c];simp
   rw[show((e.Kids.length:Int)==0)=false by simpa using c,show((e.Kids.length:Int) != 0)=true by simpa using c];rfl
  by_cases h2:e.Kind=2
  ·simp only[h2,show((2:Int)==1)=false from rfl,show((2:Int)==2)=true from rfl,show((2:Int)==5)=false from rfl,Qq,Qd,Qa,TH];by_cases c:(e.Kids.length:Int)=0
   ·rw[show((e.Kids.length:Int)==0)=true by simpa using c,show((e.Kids.length:Int) != 0)=false by simpa using c];by_cases d:0<=e.Num
    ·by_cases f:e.Num<v
     ·rw[Qi d,Qi f,Qj (by omega:¬e.Num<0),Qj (by omega:¬v<=e.Num)];simp
     rw[Qi d,Qj f,Qj (by omega:¬e.Num<0),Qi (by omega:v<=e.Num)];simp
    rw[Qj d,Qi (by omega:e.Num<0)];simp
   rw[show((e.Kids.length:Int)==0)=false by simpa using c,show((e.Kids.length:Int) != 0)=true by simpa using c];simp
  have b1:(e.Kind==1)=false:=by simpa using h1
  have b2:(e.Kind==2)=false:=by simpa using h2
  simp only[b1,b2,Qd,TG];have O:∀(m:Int) (q:Bool),((bif ((e.Kids.length:Int) != m)then C false else(bif q then C false else C (!(!(e.Kids.all p))))):O_ Bool)=C ((((e.Kids.length:Int)==m)&&!q)&&e.Kids.all p):=λm q=>by
   by_cases c:(e.Kids.length:Int)=m
   ·rw[show((e.Kids.length:Int)==m)=true by simpa using c,show((e.Kids.length:Int) != m)=false by simpa using c];cases q<;>simp
   rw[show((e.Kids.length:Int)==m)=false by simpa using c,show((e.Kids.length:Int) != m)=true by simpa using c];rfl
  have neg:((e.Kids.length:Int) != -1)=true:=by simp
  by_cases h3:e.Kind=3
  ·have:=O 1 false;simp only[h3,show((3:Int)==3)=true from rfl,show((3:Int)==5)=false from rfl,Qq,Qd,Qa]at this ⊢;rw[this];simp
  by_cases h4:e.Kind=4
  ·have:=O 1 false;simp only[h4,show((4:Int)==3)=false from rfl,show((4:Int)==4)=true from rfl,show((4:Int)==5)=false from rfl,Qq,Qd,Qa]at this ⊢;rw[this];simp
  have b3:(e.Kind==3)=false:=by simpa using h3
  have b4:(e.Kind==4)=false:=by simpa using h4
  simp only[b3,b4,Qd];by_cases h5:e.Kind=5
  ·have:=O 2 (!((decide (1<=e.Num))&&(decide (e.Num<=11))));simp only[h5,show((5:Int)==5)=true from rfl,Qq,Qd,Qa]at this ⊢;rw[this];cases ((e.Kids.length:Int)==2)<;>simp
  have b5:(e.Kind==5)=false:=by simpa using h5
  simp only[b5,Qd];by_cases h6:e.Kind=6
  ·have:=O 3 false;simp only[h6,show((6:Int)==6)=true from rfl,Qq,Qd,Qa]at this ⊢;rw[this];simp
  have b6:(e.Kind==6)=false:=by simpa using h6
  simp only[b6,Qd,Qa,neg,Qq,TG]
def QqY (e:Qn)(v:Int)(h:Wp e):OH e v=EN e v:=by
 unfold OH EN Qba Rh VN Rc Qa7 TV VP Rg;rw[QqW,Qsi,QlE _ e v h (Yj _)]
 all_goals rfl
inductive RE : Qn->Prop where
 | mk (e:Qn):XQ e.Num->(∀k∈e.Kids,RE k)->RE e
def Qnn : ∀(n:Nat) (v:LI_) (e:Qn),POk v.length e->RE e->(∀x∈v,XQ x)->SizeOf.sizeOf e<=n->∃r,XJ n v e=C r/\Er n e v=C r/\XQ r.1
 | 0,_,e,_,_,_,h=>absurd e.pos (by omega)
 | n+1,v,e,he,hr,hv,h=>by
  cases he with
  | mk _ hk h2 h3 h5 h6 hp=>
  cases hr with
  | mk _ hnum hkr=>
  have z:XQ 0:=by unfold XQ;omega
  have o:XQ 1:=by unfold XQ;omega
  have sub:∀(j:Nat) (hj:j<e.Kids.length),∃r,XJ n v (e.Kids[j])=C r/\Er n (e.Kids[j]) v=C r/\XQ r.1:=λj hj=>
   Qnn n v _ (hp _ (Xs hj)) (hkr _ (Xs hj)) hv (by have:=Vz (Xs hj);omega)
  have kid:∀(j:Nat) (hj:j<e.Kids.length),idx e.Kids (j:Int)=C e.Kids[j]:=λj hj=>by rw[QQ,QN hj]
  show ∃r,UP (XJ n) v e=C r/\Nh (Er n) e v=C r/\XQ r.1;unfold UP Nh Wd Kv;by_cases k1:e.Kind=1
  ·rw[k1];exact⟨(e.Num,0),rfl,rfl,hnum⟩
  by_cases k2:e.Kind=2
  ·have hh:=h2 k2;have hx:idx v e.Num=C (v[e.Num.toNat]'(by omega)):=So hh.1 hh.2;rw[k2];refine⟨(v[e.Num.toNat]'(by omega),0),?_,?_,hv _ (Xs _)⟩
   ·show(EP e v)=_;unfold EP Bp;rw[hx];rfl
   show(idx v e.Num).bind _=_;rw[hx];rfl
  have b1:(e.Kind==1)=false:=by simpa using k1
  have b2:(e.Kind==2)=false:=by simpa using k2
  have l1:1<=e.Kids.length:=by
   by_cases k3:e.Kind=3\/e.Kind=4
   ·have:=h3 k3;omega
   by_cases k5:e.Kind=5
   ·have:=h5 k5;omega
   have:=h6 (by omega);omega
  obtain⟨a,a1,a2,a3⟩:=sub 0 (by omega);have O:idx e.Kids 0=C (e.Kids[0]'(by omega)):=kid 0 (by omega);rw[b1,b2];simp only[Qd,O,Qa,a2];by_cases k34:e.Kind=3\/e.Kind=4
  ·have ed:((bif e.Kind==3 then bif e.Kind==3 then C (.inr (.inr (.inl v)))else bif e.Kind==5 then C (.inr (.inr (.inr (.inl v))))else C (.inr (.inr (.inr (.inr v))))else bif e.Kind==4 then C (.inr (.inr (.inl v)))else bif e.Kind==5 then C (.inr (.inr (.inr (.inl v))))else C (.inr (.inr (.inr (.inr v))))):O_ (LI_⊕(LI_⊕(LI_⊕(LI_⊕LI_)))))=C (.inr (.inr (.inl v))):=by
    rcases k34 with k | k<;>rw[k]<;>rfl
   rw[ed];show ∃r,Wu (XJ n) e v=C r/\_;unfold Wu UO;rw[O,Qa,a1,Qa];cases hz:(a.2 != 0)with
   | true=>exact⟨(0,a.2),rfl,rfl,z⟩
   | false=>
    simp only[Qd];rcases k34 with k | k
    ·rw[k];simp only[show((3:Int)==3)=true from rfl,Qq];unfold Rm;rw[Qsg z a3];have hd:=CK 2 0 a.1;obtain⟨d,hd,_⟩:=hd;rw[hd];exact⟨d,rfl,rfl,QtF z a3 hd⟩
    rw[k];simp only[show((4:Int)==3)=false from rfl,show((4:Int)==4)=true from rfl,Qq,Qd];by_cases c:a.1=0
    ·rw[c];exact⟨(1,0),rfl,rfl,o⟩
    have:(a.1==0)=false:=by simpa using c
    rw[this];refine⟨(0,0),?_,rfl,z⟩;show(((Ke (a.1==0)).bind _).bind _).bind _=_;rw[this];rfl
  have n3:¬e.Kind=3:=λk=>k34 (.inl k);have n4:¬e.Kind=4:=λk=>k34 (.inr k);have b3:(e.Kind==3)=false:=by simpa using n3
  have b4:(e.Kind==4)=false:=by simpa using n4
  rw[b3,b4];simp only[Qd];by_cases k5:e.Kind=5
  ·have hl:=h5 k5;obtain⟨b,c1,c2,c3⟩:=sub 1 (by omega);have kid1:idx e.Kids 1=C (e.Kids[1]'(by omega)):=kid 1 (by omega);rw[k5];show ∃r,EQ (XJ n) e v=C r/\_;unfold EQ MN Df;simp only[O,kid1,Qa,a1,c1,c2,show((5:Int)==6)=false from rfl,Qd];cases hz:(a.2 != 0)with
   | true=>exact⟨(0,a.2),rfl,rfl,z⟩
   | false=>
    simp only[Qd];cases hq:((e.Num==10)&&(a.1==0))with
    | true=>
     have:a.1=0:=by simp at hq;exact hq.2
     rw[this];exact⟨(0,0),rfl,rfl,z⟩
    | false=>
     simp only[Qd];have rest:∃r,((bif (b.2 != 0)then C (0,b.2)else(JY e.Num a.1 b.1).bind λx16=>C (x16.1,x16.2)):O_ (Int×Int))=C r/\((bif (b.2 != 0)then C (0,b.2)else(DI e.Num a.1 b.1).bind λx16=>C (x16.1,x16.2)):O_ (Int×Int))=C r/\XQ r.1:=by
      rw[Qsg a3 c3];obtain⟨d,hd,_⟩:=CK e.Num a.1 b.1;rw[hd];cases (b.2 != 0)with
      | true=>exact⟨(0,b.2),rfl,rfl,z⟩
      | false=>exact⟨d,rfl,rfl,QtF a3 c3 hd⟩
     obtain⟨r,r1,r2,r3⟩:=rest;cases h11:(e.Num==11)with
     | false=>
      simp only[Qd,TG];exact⟨r,by rw[r1];rfl,r2,r3⟩
     | true=>
      simp only[Qq,TH];cases ha:(a.1 != 0)with
      | true=>
       refine⟨(1,0),?_,rfl,o⟩;simp only[Qq];show(((Ke (a.1 != 0)).bind _).bind _).bind _=_;rw[ha];rfl
      | false=>
       simp only[Qd];exact⟨r,by rw[r1];rfl,r2,r3⟩
  have k6:e.Kind=6:=by omega
  have hl:=h6 k6;obtain⟨b,c1,c2,c3⟩:=sub 1 (by omega);obtain⟨d,d1,d2,d3⟩:=sub 2 (by omega);have kid1:idx e.Kids 1=C (e.Kids[1]'(by omega)):=kid 1 (by omega);have kid2:idx e.Kids 2=C (e.Kids[2]'(by omega)):=kid 2 (by omega);rw[k6];show ∃r,ER (XJ n) e v=C r/\_;unfold ER CR;simp only[O,kid1,kid2,Qa,a1,c1,c2,d1,d2,show((6:Int)==6)=true from rfl,Qq];cases hz:(a.2 != 0)with
  | true=>exact⟨(0,a.2),rfl,rfl,z⟩
  | false=>
   simp only[Qd];cases (a.1 != 0)with
   | true=>exact⟨b,rfl,rfl,c3⟩
   | false=>exact⟨d,rfl,rfl,d3⟩
def Qno {v:LI_}(h:Wp e)(hr:RE e)(hv:∀x∈v,XQ x):∃r,CB e v=C r/\Ml e v=C r/\XQ r.1:=by
 unfold CB Ml Lm Qbb;rw[QqY e _ h];obtain⟨b,hb,O⟩:=No e v.length h;rw[hb,Qa,Qa];cases b with
 | false=>exact⟨(0,1),rfl,rfl,by unfold XQ;decide⟩
 | true=>
  obtain⟨r,r1,r2,r3⟩:=Qnn _ v e (O rfl) hr hv (Yj _);rw[r1,r2];exact⟨r,rfl,rfl,r3⟩
def QeJ {σ τ ρ π:Type}{b1:σ->O_ (σ⊕ρ)}{b2:τ->O_ (τ⊕π)}(n:Nat)(I:Nat->σ->τ->Prop)(O:ρ->π->Prop)
  (step:∀i s t,i<=n->I i s t->(i<n/\∃s' t',b1 s=C (.inl s')/\b2 t=C (.inl t')/\I (i+1) s' t')\/∃r q,b1 s=C (.inr r)/\b2 t=C (.inr q)/\O r q):∀s t,I 0 s t->∃r q,Qt b1 s=C r/\Qt b2 t=C q/\O r q:=by
 have key:∀k i s t,i+k=n->I i s t->∃r q,Qt b1 s=C r/\Qt b2 t=C q/\O r q:=by
  intro k
  induction k with
  | zero=>
   intro i s t hk hI;rcases step i s t (by omega) hI with⟨h,_⟩|⟨r,q,h1,h2,h3⟩
   ·omega
   exact⟨r,q,by rw[Yn,h1];rfl,by rw[Yn,h2];rfl,h3⟩
  | succ k ih=>
   intro i s t hk hI;rcases step i s t (by omega) hI with⟨_,s',t',h1,h2,h3⟩|⟨r,q,h1,h2,h3⟩
   ·obtain⟨r,q,e1,e2,e3⟩:=ih (i+1) s' t' (by omega) h3;exact⟨r,q,by rw[Yn,h1];exact e1,by rw[Yn,h2];exact e2,e3⟩
   exact⟨r,q,by rw[Yn,h1];rfl,by rw[Yn,h2];rfl,h3⟩
 exact λs t h=>key n 0 s t (by omega) h
def QgH {a b:ByteArray}:Kq a b=true↔a=b:=by
 unfold Kq;rw[beq_iff_eq,ByteArray.toList_eq,ByteArray.toList_eq];exact⟨λh=>ByteArray.ext (Array.toList_inj.1 h),λh=>by rw[h]⟩
def Qpj (a b:ByteArray):Kq a b=decide (a=b):=by
 by_cases h:a=b
 ·rw[Qi h];exact QgH.2 h
 rw[Qj h,<-Hj,QgH];exact h
def Qnp (s:ByteArray):Mk s=DB s:=by
 have e0:decide ((s.size:Int)<1)=Kq s (⟨#[]⟩:ByteArray):=by
  rw[Qpj];apply decide_eq_decide.2;constructor
  ·intro h;obtain⟨a⟩:=s;have:a=#[]:=Qp8 (by have h:((a.size:Nat):Int)<1:=h;omega);rw[this]
  intro h;subst h;decide
 have g1:RW s=Hn s:=by
  unfold RW Hn;rw[e0];rfl
 have l4:∀i,LB s i=Ee s i:=λi=>by
  unfold LB Ee Qb4;cases h:sidx s i with
  | none=>rfl
  | some c=>
   simp only[Qa];congr 1;unfold OU Nf Ul VM Qb5 OV;simp only[Qa];generalize (bif (decide (97<=c))then((decide (c<=122))||((decide (65<=c))&&(decide (c<=90))))else((decide (65<=c))&&(decide (c<=90))))=q;cases q with
   | true=>rfl
   | false=>
    by_cases O:c<48
    ·rw[Qi O,Qj (by omega:¬48<=c)];rfl
    rw[Qj O,Qi (by omega:48<=c)];by_cases h2:57<c
    ·rw[Qi h2,Qj (by omega:¬c<=57)];rfl
    rw[Qj h2,Qi (by omega:c<=57)];rfl
 unfold Mk DB Qb6 OY;rw[g1,show(λst=>LB s st)=λst=>Ee s st from funext l4];rfl
def QmS {α:Type}(f:α->Bool):∀(l:L_ α) (k:Nat) (t:Bool),EF (λ(_:Nat) (t:Bool) x=>(.inl (t&&f x):Bool⊕Bool)) (λt=>t) k t l=(t&&l.all f)
 | [],_,t=>by simp[EF]
 | x::l,k,t=>by rw[EF,Sum.elim_inl,QmS f l];simp[Bool.and_assoc]
def Had (m:L_ (ByteArray×Bool))(l:L_ ByteArray):Prop:=∀k,(Xa m k).getD false=l.any λe=>Kq e k
def Had.add {m:L_ (ByteArray×Bool)}{l:L_ ByteArray}(h:Had m l)(x:ByteArray):Had (Jl ltS m x true) (l++[x]):=λk=>by
 rw[He,List.any_append,<-h k];by_cases e:k=x
 ·subst e;rw[if_pos rfl];have:Kq k k=true:=QgH.2 rfl;simp[this]
 rw[if_neg e];have:Kq x k=false:=by rw[Qpj];exact Qj λh=>e h.symm
 simp[this]
def QqZ {l:L_ ByteArray}(h:QX UA l):∃b,Ax l=C b/\OD l=C b:=by
 have nm:∀x∈l,∃b,DB x=C b:=λx hx=>(Cu x (h.2 x hx)).tot;obtain⟨r,q,e1,e2,e3⟩:=QeJ (b1:=λst:Int×L_ (ByteArray×Bool)=>Db l st.1 st.2) (b2:=λst:Int=>AY l st) l.length (λi s t=>s.1=(i:Int)/\t=(i:Int)/\Had s.2 (l.take i)) (λr q=>r=q) (λi s t hi hI=>by
  obtain⟨a,m⟩:=s;obtain⟨h1,h2,h3⟩:=hI;replace h1:a=(i:Int):=h1;subst h1 h2;replace h3:Had m (l.take i):=h3;show(i<l.length/\∃s' t',Db l i m=_/\AY l i=_/\_)\/∃r q,Db l i m=_/\AY l i=_/\_;unfold Db AY Nz NA;by_cases O:i<l.length
  ·have hx:l[i]? = C l[i]:=QN O;obtain⟨b,hb⟩:=nm _ (Xs O);have il:=Mq (body:=λst:Bool×Int=>El i l st.1 st.2) (l:=l.take i) (λk (t:Bool)=>(t,(k:Int))) (λ_ t e=>.inl (t&&!Kq e l[i])) (λt=>t) (λk t x hk hkx=>by
    rw[Wq]at hk;have hkx:l[k]? = C x:=by rw[Ka,if_pos (by omega)]at hkx;exact hkx
    show El i l t (k:Int)=_;unfold El QaZ Qa0;rw[Qi (by omega),Qq,QQ,hkx,QQ,hx,Qr O h.1 |> λ_=>Qr (show k<l.length by omega) h.1];cases t<;>rfl) (λt=>by
    show El i l t ((l.take i).length:Int)=_;unfold El;rw[Wq,Qj (by omega)];rfl) b (s0:=(b,0)) rfl
   rw[QmS]at il;rw[Qi (show(i:Int)<(l.length:Int) by omega),Qq,Qq,QQ,hx,Qa,Qa,Qnp,hb,Qa,Qa,il,Qa,Qr O h.1];unfold Qa1;rw[h3 l[i],Qr O h.1];have ea:(l.take i).all (λe=>!Kq e l[i])=!((l.take i).any λe=>Kq e l[i]):=by rw[List.not_any_eq_all_not]
   rw[ea];cases b with
   | false=>right;exact⟨_,_,rfl,rfl,rfl⟩
   | true=>
    cases hq:(l.take i).any λe=>Kq e l[i]with
    | true=>right;exact⟨_,_,rfl,rfl,rfl⟩
    | false=>
     left;refine⟨O,_,_,rfl,rfl,rfl,rfl,?_⟩;rw[UU,hx];exact h3.add _
  right;rw[Qj (show ¬(i:Int)<(l.length:Int) by omega)];exact⟨_,_,rfl,rfl,rfl⟩) (0,[]) 0 ⟨rfl,rfl,λk=>rfl⟩
 subst e3;unfold Ax OD;rw[e1,e2];rcases r with r | r
 ·exact⟨false,rfl,rfl⟩
 exact⟨true,rfl,rfl⟩
structure QgI (c:QR) (s:Int):Prop where
 b:1<=s/\s<=1024
 i:c.Kind=1->c.Lo<=c.Hi/\s=c.Hi-c.Lo+1
def IC (c:QR):Prop:=XQ c.Lo/\XQ c.Hi
def QuD {lo O:Int}(hl:XQ lo)(hh:XQ O):BN lo O=C (if O<lo then 0 else if O-lo<1024 then O-lo+1 else 1025):=by
 unfold BN;by_cases h:O<lo
 ·rw[Qi h,if_pos h];rfl
 rw[Qj h,if_neg h,Qd];have e:IntKind.u64.wrap (IntKind.u64.wrap O-IntKind.u64.wrap lo)=O-lo:=by
  rw[ZP,ZP,ZP];unfold XQ at *;omega
 rw[e];unfold min2;by_cases h2:O-lo<1024
 ·rw[if_pos h2];by_cases h3:1024<O-lo
  ·omega
  rw[if_neg h3,Xj (n:=O-lo) (by omega),Xj (by omega)]
 rw[if_neg h2];split
 ·rfl
 have:O-lo=1024:=by omega
 rw[this];rfl
def Mv (n:Int):Bool:=decide (n<1)||decide (1024<n)
def Qp4 {n:Int}(h:Mv n=false):1<=n/\n<=1024:=by
 unfold Mv at h;simp only[KS,Xq]at h;omega
def Qv6 {c:QR}{out:LI_}(hc:IC c)(hN:QX UA c.Names)(ho:out.length=i):∃n n',BO c out=C n/\(∀ok,Pp c out (i:Int) ok=JS ok out i n')/\((n'=n/\(Mv n=false->QgI c n))\/(Mv n=true/\Mv n'=true)):=by
 unfold BO Pp;have z:Mv 0=true:=rfl;by_cases k1:c.Kind=1
 ·rw[show(c.Kind==1)=true by simpa using k1];simp only[Qq];rw[QuD hc.1 hc.2,Qa];obtain⟨c1,c2⟩:=hc;unfold XQ at c1 c2;by_cases a1:c.Hi<c.Lo
  ·rw[if_pos a1,Qj (by omega:¬c.Lo<=c.Hi),TG];exact⟨0,0,rfl,λ_=>rfl,.inr ⟨z,z⟩⟩
  rw[if_neg a1,Qi (by omega:c.Lo<=c.Hi),TH];by_cases a2:0<=c.Lo\/c.Hi<c.Lo+1024
  ·have O:(decide (0<=c.Lo)||decide (c.Hi<Qm (c.Lo+1024)))=true:=by
    by_cases a3:0<=c.Lo
    ·rw[Qi a3,Bool.true_or]
    rw[Xj (by omega),Qi (by omega:c.Hi<c.Lo+1024),Bool.or_true]
   rw[O];simp only[Qq];have e1:Qm (c.Hi-c.Lo)=c.Hi-c.Lo:=Xj (by omega);rw[e1];unfold min2;by_cases a4:c.Hi-c.Lo<1024
   ·rw[if_pos a4,if_neg (by omega:¬1024<c.Hi-c.Lo),Xj (by omega)];exact⟨_,_,rfl,λ_=>rfl,.inl ⟨rfl,λhb=>⟨Qp4 hb,λ_=>⟨by omega,rfl⟩⟩⟩⟩
   rw[if_neg a4];refine⟨_,_,rfl,λ_=>rfl,.inr ⟨rfl,?_⟩⟩;have:(if (1024:Int)<c.Hi-c.Lo then 1024 else c.Hi-c.Lo)=1024:=by split<;>omega
   rw[this];rfl
  rw[Qj (by omega:¬0<=c.Lo),Bool.false_or,Xj (by omega),Qj (by omega:¬c.Hi<c.Lo+1024),if_neg (by omega)];exact⟨_,_,rfl,λ_=>rfl,.inr ⟨rfl,z⟩⟩
 rw[show(c.Kind==1)=false by simpa using k1];simp only[Qd];have nk:∀n,Mv n=false->QgI c n:=λn hb=>⟨Qp4 hb,λh=>absurd h k1⟩;by_cases k2:c.Kind=2
 ·rw[show(c.Kind==2)=true by simpa using k2];simp only[Qq];obtain⟨b,b1,b2⟩:=QqZ hN;rw[b1,b2];cases b with
  | true=>exact⟨_,_,rfl,λ_=>rfl,.inl ⟨rfl,nk _⟩⟩
  | false=>exact⟨0,0,rfl,λ_=>rfl,.inr ⟨z,z⟩⟩
 rw[show(c.Kind==2)=false by simpa using k2];simp only[Qd];by_cases k3:c.Kind=3
 ·rw[show(c.Kind==3)=true by simpa using k3];simp only[Qq];have O:((decide (0<=min2 c.First c.Then))&&(decide (max2 c.First c.Then<(out.length:Int))))=((decide (0<=c.First))&&((decide (c.First<(i:Int)))&&((decide (0<=c.Then))&&(decide (c.Then<(i:Int)))))):=by
   apply IZ.2;simp only[QH,QG,Nl,Nm,ho];omega
  rw[O];cases hq:((decide (0<=c.First))&&((decide (c.First<(i:Int)))&&((decide (0<=c.Then))&&(decide (c.Then<(i:Int))))))with
  | false=>exact⟨0,0,rfl,λ_=>rfl,.inr ⟨z,z⟩⟩
  | true=>
   simp only[QH,QG]at hq;simp only[Qq];rw[So hq.1 (by omega),So hq.2.2.1 (by omega)];exact⟨_,_,rfl,λ_=>rfl,.inl ⟨rfl,nk _⟩⟩
 rw[show(c.Kind==3)=false by simpa using k3];exact⟨0,0,rfl,λ_=>rfl,.inr ⟨z,z⟩⟩
def Qq0 (h:QX Jk l)(hc:∀c∈l,IC c):∃x b,Ef l=C (x,b)/\OE l=C x/\(b=false->x=[])/\(b=true->x.length=l.length/\∀(j:Nat) c s,l[j]? = C c->x[j]? = C s->QgI c s):=by
 unfold Ef OE;by_cases h32:32<l.length
 ·rw[Qi (show(32:Int)<(l.length:Int) by omega)];exact⟨[],false,rfl,rfl,λ_=>rfl,λh=>by cases h⟩
 rw[Qj (show ¬(32:Int)<(l.length:Int) by omega),Qd,Qd];have hm:(2048:Nat)<=maxLen:=by decide
 obtain⟨r,q,e1,e2,e3⟩:=QeJ (b1:=λst:Int×L_ (ByteArray×Bool)×LI_=>Dc l st.1 st.2.1 st.2.2) (b2:=λst:Int×LI_=>AZ l st.1 st.2) l.length
  (λi s t=>s.1=(i:Int)/\t=((i:Int),s.2.2)/\Had s.2.1 ((l.take i).map QR.Name)/\s.2.2.length=i/\∀(j:Nat) c z,l[j]? = C c->s.2.2[j]? = C z->QgI c z)
  (λr q=>r=q/\∀x,r=.inr x->x.length=l.length/\∀(j:Nat) c z,l[j]? = C c->x[j]? = C z->QgI c z) (λi s t hi hI=>by
  obtain⟨a,m,out⟩:=s;obtain⟨h1,h2,h3,h4,h5⟩:=hI;replace h1:a=(i:Int):=h1;subst h1 h2;replace h3:Had m ((l.take i).map QR.Name):=h3;replace h4:out.length=i:=h4;replace h5:∀(j:Nat) c z,l[j]? = C c->out[j]? = C z->QgI c z:=h5;show(i<l.length/\∃s' t',Dc l i m out=_/\AZ l i out=_/\_)\/∃r q,Dc l i m out=_/\AZ l i out=_/\_;unfold Dc AZ ND NE;by_cases O:i<l.length
  ·have hx:l[i]? = C l[i]:=QN O;have hmem:=Xs O;obtain⟨b,hb,_⟩:=Cu l[i].Name (h.2 _ hmem).1;have il:=Mq (body:=λst:Bool×Int=>Em i l l[i] st.1 st.2) (l:=l.take i) (λk (t:Bool)=>(t,(k:Int))) (λ_ t e=>.inl (t&&!Kq e.Name l[i].Name)) (λt=>t) (λk t x hk hkx=>by
    rw[Wq]at hk;have hkx:l[k]? = C x:=by rw[Ka,if_pos (by omega)]at hkx;exact hkx
    show Em i l l[i] t (k:Int)=_;unfold Em Qa2 Qa3;rw[Qi (by omega),Qq,QQ,hkx,Qr (show k<l.length by omega) h.1];cases t<;>rfl) (λt=>by
    show Em i l l[i] t ((l.take i).length:Int)=_;unfold Em;rw[Wq,Qj (by omega)];rfl) b (s0:=(b,0)) rfl
   rw[QmS]at il;rw[Qi (show(i:Int)<(l.length:Int) by omega),Qq,Qq,QQ,hx,Qa,Qa,Qnp,hb];have ea:(l.take i).all (λe=>!Kq e.Name l[i].Name)=!(((l.take i).map QR.Name).any λe=>Kq e l[i].Name):=by rw[List.any_map,List.not_any_eq_all_not];rfl
   generalize hq:((l.take i).map QR.Name).any (λe=>Kq e l[i].Name)=had;obtain⟨n,n',s1,s2,s3⟩:=Qv6 (i:=i) (hc _ hmem) (h.2 _ hmem).2.2.2.2.1 h4;rw[s1];simp only[Qa];rw[il];simp only[Qa];rw[h3 l[i].Name,ea,hq,s2];unfold JS;have hbs:∀n,((decide (n<1))||(decide (1024<n)))=Mv n:=λ_=>rfl;rw[hbs];have ebad:((bif !b then C true else bif had then C true else bif decide (n<1)then C true else C (decide (1024<n))):O_ Bool)=C (!b||(had||Mv n)):=by
    unfold Mv;cases b<;>cases had<;>cases decide (n<1)<;>rfl
   rw[ebad,Qa];have stop:∀n n':Int,Mv n'=true\/(b&&!had)=false->(!b||(had||Mv n))=true->∃(r:Unit⊕LI_) (q:Unit⊕LI_),((bif (!b||(had||Mv n))then C (.inr (.inl ()))else(chk (decide (out.length+[n].length<=4294967296))).bind λ_=>C (.inl (Qm ((i:Int)+1),Jl ltS m l[i].Name true,out++[n]))):O_ ((Int×L_ (ByteArray×Bool)×LI_)⊕(Unit⊕LI_)))=C (.inr r)/\((bif (!(b&&!had)||Mv n')then C (.inr (.inl ()))else(chk (decide (out.length+[n'].length<=4294967296))).bind λ_=>C (.inl (Qm ((i:Int)+1),out++[n']))):O_ ((Int×LI_)⊕(Unit⊕LI_)))=C (.inr q)/\r=q/\∀x,r=.inr x->x.length=l.length/\∀(j:Nat) c z,l[j]? = C c->x[j]? = C z->QgI c z:=λn n' h1 h2=>by
    refine⟨.inl (),.inl (),by rw[h2];rfl,?_,rfl,λx hx=>by cases hx⟩;rcases h1 with h1 | h1<;>rw[h1]<;>simp
   by_cases hg:b=true/\had=false/\Mv n=false
   ·obtain⟨g1,g2,g3⟩:=hg;rcases s3 with⟨s4,s5⟩|⟨s4,_⟩
    ·subst s4 g1 g2;rw[g3];simp only[Jo,Zw,QbC,QbD,Qd];left;rw[YI (by simp;omega),Qa,Qa];refine⟨O,_,_,rfl,rfl,Qr O h.1,by rw[Qr O h.1],?_,by simp;omega,λj c z hj hz=>?_⟩
     ·rw[UU,hx,TK];exact h3.add _
     replace hz:(out++[n'])[j]? = C z:=hz;by_cases hjl:j<out.length
     ·rw[Jp hjl]at hz;exact h5 j c z hj hz
     rw[JG (by omega)]at hz;have:j=i:=by
      have:=(Xb.1 hz).1;simp at this;omega
     subst this;rw[hx]at hj;cases hj;rw[h4,Nat.sub_self]at hz;cases hz;exact s5 g3
    rw[g3]at s4;cases s4
   right;refine stop n n' ?_ ?_
   ·rcases s3 with⟨s4,_⟩|⟨_,s4⟩
    ·subst s4;cases b<;>cases had<;>cases hb2:Mv n'<;>simp_all
    exact .inl s4
   cases b<;>cases had<;>cases hb2:Mv n<;>simp_all
  right;rw[Qj (show ¬(i:Int)<(l.length:Int) by omega)];exact⟨_,_,rfl,rfl,rfl,λx hx=>by cases hx;exact⟨by show out.length=_;omega,h5⟩⟩) (0,[],[]) (0,[]) ⟨rfl,rfl,λk=>rfl,rfl,λj c z _ h=>by simp at h⟩
 obtain⟨e3,e4⟩:=e3;subst e3;rw[e1,e2];rcases r with r | r
 ·exact⟨[],false,rfl,rfl,λ_=>rfl,λh=>by cases h⟩
 exact⟨r,true,rfl,rfl,(λh=>by cases h),λ_=>e4 r rfl⟩
def QmT (h:QX Jk l)(hc:∀c∈l,IC c)(k:Int):
  (EY l k=C 0/\∃x,Du l k=C (false,x))\/
  ∃c x s,l[k.toNat]? = C c/\0<=k/\k.toNat<l.length/\x[k.toNat]? = C s/\QgI c s/\EY l k=C s/\Du l k=C (true,Ji.mk l x k):=by
 obtain⟨x,b,h1,h2,h3,h4⟩:=Qq0 h hc;unfold EY Du;rw[h1,h2,Qa,Qa];cases b with
 | false=>
  rw[h3 rfl];refine .inl ⟨?_,_,rfl⟩;have:((decide (k<0))||(decide ((([]:LI_).length:Int)<=k)))=true:=by simp;omega
  rw[this];rfl
 | true=>
  obtain⟨h5,h6⟩:=h4 rfl;rw[h5];cases hq:((decide (k<0))||(decide ((l.length:Int)<=k)))with
  | true=>exact .inl ⟨rfl,_,rfl⟩
  | false=>
   simp only[KS,Xq]at hq;have e1:l[k.toNat]? = C (l[k.toNat]'(by omega)):=QN (by omega);have O:x[k.toNat]? = C (x[k.toNat]'(by omega)):=QN (by omega);exact .inr ⟨_,x,_,e1,by omega,by omega,O,h6 _ _ _ e1 O,by rw[Qd,IG (by omega),O];rfl,rfl⟩
def Qsk (h:QX Jk l)(hc:∀c∈l,IC c)(k:Int):EY l k=YL l k:=by
 unfold YL;rcases QmT h hc k with⟨O,x,e2⟩|⟨c,x,s,h1,h2,h3,h4,h5,O,e2⟩
 ·rw[O,e2];rfl
 rw[O,e2,Qa];show C s=(idx x k).bind _;rw[IG h2,h4];rfl
def Qpk {x:LI_}{k s:Int}(O:0<=k)(hs:x[k.toNat]? = C s)(m:Int):KC (Ji.mk l x k) m=C (decide (0<=m)&&decide (m<s)):=by
 unfold KC GX SA;by_cases h:0<=m
 ·rw[Qi h,Qq,TH];show((idx x k).bind _).bind _=_;rw[IG O,hs];rfl
 rw[Qj h];rfl
def Qsl {x:LI_}{k:Int}{c:QR}(h:0<=k)(O:l[k.toNat]? = C c):JX (Ji.mk l x k)=C c:=by
 unfold JX;show(idx l k).bind _=_;rw[IG h,O];rfl
def QpN (h:QX Jk l)(hc:∀c∈l,IC c)(k m:Int):∃r,Dj l k m=C r/\Ng l k m=C r/\XQ r.1:=by
 have z:XQ 0:=by unfold XQ;omega
 unfold Dj Ng Zf Zg Cc Cd;rcases QmT h hc k with⟨e1,x,e2⟩|⟨c,x,s,h1,h2,h3,h4,h5,e1,e2⟩
 ·rw[e1,e2,Qa,Qa];refine⟨(0,false),rfl,?_,z⟩;by_cases O:m<0
  ·rw[Qi O];rfl
  rw[Qj O,Qd,Qa,Qi (by omega:0<=m)];rfl
 rw[e1,e2,Qa,Qa];simp only[Jo,Qd];rw[Qpk h2 h4,Qa,Qa];have e3:(bif decide (m<0)then C true else C (decide (s<=m)):O_ Bool)=C (!(decide (0<=m)&&decide (m<s))):=by
  by_cases O:m<0
  ·rw[Qi O,Qj (by omega:¬0<=m)];rfl
  rw[Qj O,Qi (by omega:0<=m)];by_cases hs:s<=m
  ·rw[Qi hs,Qj (by omega:¬m<s)];rfl
  rw[Qj hs,Qi (by omega:m<s)];rfl
 rw[e3,Qa,IG h2,h1];cases hq:(!(decide (0<=m)&&decide (m<s)))with
 | true=>exact⟨(0,false),rfl,rfl,z⟩
 | false=>
  simp only[Bk,QH,QG]at hq;have hb:=h5.b;rw[Qsl h2 h1,Qa,Qa,Qd];cases (c.Kind==1)with
  | true=>exact⟨_,rfl,rfl,Qoc _⟩
  | false=>exact⟨_,rfl,rfl,by unfold XQ;omega⟩
def QjJ {s first n:Int}(hs:s<=1024)(hf:XQ first)(hl:first+s-1<=9223372036854775807):GF s n first=C (bif (decide (0<=n-first)&&decide (n-first<s))then(n-first,true)else(0,false)):=by
 unfold GF;unfold XQ at hf;have hm:(2048:Nat)<=maxLen:=by decide
 obtain⟨r,hr,h1⟩:=AE (body:=λst:Int=>Dg s first n st) s.toNat (λi st=>st=(i:Int)/\∀j:Nat,j<i->first+j≠n) (λr=>r=bif (decide (0<=n-first)&&decide (n-first<s))then .inl (n-first)else .inr ()) (λi st hi h=>by
  obtain⟨rfl,h⟩:=h;show(∃s',Dg s first n i=_/\_)\/∃r,Dg s first n i=_/\_
  unfold Dg;rw[Qi (by omega),Qq,Xj (n:=first+i) (by omega)]
  by_cases e:first+i=n
  ·right;rw[show(first+(i:Int)==n)=true by simpa using e,Qq]
   refine⟨_,rfl,?_⟩;rw[Qi (by omega),Qi (by omega),show n-first=(i:Int) by omega];rfl
  ·left;rw[show(first+(i:Int)==n)=false by simpa using e,Qd]
   refine⟨_,rfl,Xj (by omega),λj hj=>?_⟩;by_cases O:j=i
   ·subst O;exact e
   exact h j (by omega)) (λst h=>by
  obtain⟨rfl,h⟩:=h;show ∃r,Dg s first n (s.toNat:Int)=_/\_
  unfold Dg;rw[Qj (by omega),Qd];refine⟨_,rfl,?_⟩;by_cases c:0<=n-first/\n-first<s
  ·have:=h (n-first).toNat (by omega)
   omega
  have:(decide (0<=n-first)&&decide (n-first<s))=false:=by
   apply Bool.eq_false_iff.2;simp only[ne_eq,QH,QG];exact c
  rw[this];rfl) 0 ⟨rfl,λj hj=>by omega⟩
 rw[hr,h1,Qa];cases (decide (0<=n-first)&&decide (n-first<s))<;>rfl
def QpO (h:QX Jk l)(hc:∀c∈l,IC c)(k n:Int)(hn:XQ n):∃r,Dk l k n=C r/\Ni l k n=C r:=by
 unfold Dk Ni Zj Zk;rcases QmT h hc k with⟨e1,x,e2⟩|⟨c,x,s,h1,h2,h3,h4,h5,e1,e2⟩
 ·rw[e1,e2,Qa,Qa];refine⟨(0,false),rfl,?_⟩;show GF 0 n 0=_;rw[QjJ (by omega) (by unfold XQ;omega) (by omega)];have:(decide (0<=n-0)&&decide (n-0<0))=false:=by
   apply Bool.eq_false_iff.2;simp only[ne_eq,QH,QG];omega
  rw[this];rfl
 rw[e1,e2,Qa,Qa];simp only[Jo,Qd];have hb:=h5.b;have O:=Xx h1;obtain⟨c1,c2⟩:=hc c O;rw[Qsl h2 h1,Qa,Qi (by omega:0<s),Qq,IG h2,h1];simp only[Qa];unfold Kw;by_cases k1:c.Kind=1
 ·rw[show(c.Kind==1)=true by simpa using k1];simp only[Qq];obtain⟨g1,g2⟩:=h5.i k1;unfold XQ at c1 c2 hn;rw[QjJ hb.2 c1 (by omega)];by_cases q:n<c.Lo\/c.Hi<n
  ·have:((decide (n<c.Lo))||(decide (c.Hi<n)))=true:=by simpa using q
   rw[this,Qq];have:(decide (0<=n-c.Lo)&&decide (n-c.Lo<s))=false:=by
    apply Bool.eq_false_iff.2;simp only[ne_eq,QH,QG];omega
   rw[this];exact⟨_,rfl,rfl⟩
  have:((decide (n<c.Lo))||(decide (c.Hi<n)))=false:=by simpa using q
  rw[this,Qd,Xj (by omega),Qpk h2 h4,Qa,Qi (by omega:0<=n-c.Lo),Qi (by omega:n-c.Lo<s)];exact⟨_,rfl,rfl⟩
 rw[show(c.Kind==1)=false by simpa using k1];simp only[Qd];rw[QjJ hb.2 (by unfold XQ;omega) (by omega),Qpk h2 h4,Qa,show n-0=n by omega];cases (decide (0<=n)&&decide (n<s))with
 | true=>exact⟨_,rfl,rfl⟩
 | false=>exact⟨_,rfl,rfl⟩
def Cw {α:Type}{l:L_ α}(h:i<l.length):l.take (i+1)=l.take i++[l[i]]:=by rw[UU,QN h];rfl
def Qbl {l:QBg}{x:Int×Int}:GD (l++[x])↔GD l/\∀p∈l,p.1<x.1:=by
 unfold GD;rw[QjO];constructor
 ·rintro ⟨h,_,O⟩;exact⟨h,λp hp=>O p hp x (by simp)⟩
 rintro ⟨h,O⟩;exact⟨h,by simp,λp hp q hq=>by simp at hq;subst hq;exact O p hp⟩
def Qpl (h:GD b)(O:i<b.length):∀p∈b.take i,p.1<b[i].1:=by
 have:=h.sublist (List.take_sublist (i+1) b);rw[Cw O]at this;exact(Qbl.1 this).2
def Hh (h:b.length<=maxLen):KQ b=C (Ea (-1) b):=by
 unfold KQ;obtain⟨r,hr,h1⟩:=AE (body:=λst:Int=>DR b st) b.length (λi s=>s=(i:Int)/\Rt (b.take i)) (λr=>r=bif Ea (-1) b then .inr ()else .inl ()) (λi s hi O=>by
  obtain⟨rfl,O⟩:=O;have hx:b[i]? = C b[i]:=QN hi;show(∃s',DR b i=_/\_)\/∃r,DR b i=_/\_;unfold DR QaX QaY;rw[Qi (by omega),Qq,QQ,hx];simp only[Qa];have stop:¬Rt b->∃r:Unit⊕Unit,C (Sum.inr (Sum.inl ()))=(C (Sum.inr r):O_ (Int⊕(Unit⊕Unit)))/\r=bif Ea (-1) b then .inr ()else .inl ():=λhb=>by
   rw[<-YV,Hj]at hb;rw[hb];exact⟨_,rfl,rfl⟩
  have hm:=Xs hi;by_cases c1:b[i].1<0
  ·rw[Qi c1];exact .inr (stop λhb=>by have:=hb.2 _ hm;omega)
  rw[Qj c1,Qd];by_cases c2:b[i].2<1
  ·rw[Qi c2];exact .inr (stop λhb=>by have:=hb.2 _ hm;omega)
  rw[Qj c2,Qd];by_cases c3:1048576<b[i].2
  ·rw[Qi c3];exact .inr (stop λhb=>by have:=hb.2 _ hm;omega)
  rw[Qj c3,Qd];have go:(∀p∈b.take i,p.1<b[i].1)->Rt (b.take (i+1)):=λhp=>by
   rw[Cw hi];refine⟨Qbl.2 ⟨O.1,hp⟩,λp hp=>?_⟩;rcases Wr.1 hp with hp | hp
   ·exact O.2 p hp
   simp at hp;subst hp;omega
  by_cases c4:0<i
  ·rw[Qi (by omega:(0:Int)<(i:Int)),Qq,Xj (n:=(i:Int)-1) (by unfold maxLen at h;omega),show(i:Int)-1=((i-1:Nat):Int) by omega,QQ,QN (show i-1<b.length by omega)];simp only[Qa];by_cases c5:b[i].1<=(b[i-1]'(by omega)).1
   ·rw[Qi c5];exact .inr (stop λhb=>by
     have:=QgO.1 hb.1 (i-1) i (by omega) hi (by omega);omega)
   rw[Qj c5];refine .inl ⟨_,rfl,Qr hi h,go λp hp=>?_⟩;obtain⟨j,hj,rfl⟩:=Ug.1 hp;rw[Wq]at hj;rw[Zx];by_cases hji:j=i-1
   ·subst hji;omega
   have:=QgO.1 O.1 j (i-1) (by simp;omega) (by simp;omega) (by omega);rw[Zx,Zx]at this;omega
  ·rw[Qj (by omega:¬(0:Int)<(i:Int)),Qd];refine .inl ⟨_,rfl,Qr hi h,go λp hp=>?_⟩;rw[show i=0 by omega]at hp;cases hp) (λs O=>by
  obtain⟨rfl,O⟩:=O;rw[BY]at O;refine⟨_,?_,rfl⟩;show DR b (b.length:Int)=_;unfold DR;rw[Qj (by omega),YV.2 O];rfl) 0 ⟨rfl,Rt.nil⟩
 rw[hr,h1];cases Ea (-1) b<;>rfl
def QgJ (h:b.length<=maxLen)(hb:Rt b)(m:Int):BS b m=C (QD b m):=by
 unfold BS;rw[Hh h,YV.2 hb,Qa];obtain⟨r,hr,h1⟩:=AE (body:=λst:Int=>DS b true m st) b.length (λi s=>s=(i:Int)/\∀p∈b.take i,p.1≠m) (λr=>r=.inl (QD b m)\/(r=.inr ()/\QD b m=0)) (λi s hi O=>by
  obtain⟨rfl,O⟩:=O;have hx:b[i]? = C b[i]:=QN hi;show(∃s',DS b true m i=_/\_)\/∃r,DS b true m i=_/\_;unfold DS;rw[Qi (by omega),TH,Qq,QQ,hx];simp only[Qa];by_cases e:b[i].1=m
  ·rw[show(b[i].1==m)=true by simpa using e];refine .inr ⟨_,rfl,.inl ?_⟩;rw[<-e,Eu hb.1.nd (Xs hi)]
  ·rw[show(b[i].1==m)=false by simpa using e];refine .inl ⟨_,rfl,Qr hi h,λp hp=>?_⟩;rw[Cw hi]at hp;rcases Wr.1 hp with hp | hp
   ·exact O p hp
   simp at hp;subst hp;exact e) (λs O=>by
  obtain⟨rfl,O⟩:=O;rw[BY]at O;refine⟨.inr (),?_,.inr ⟨rfl,?_⟩⟩
  ·show DS b true m (b.length:Int)=_;unfold DS;rw[Qj (by omega)];rfl
  unfold QD;rw[OM.2 O];rfl) 0 ⟨rfl,λp hp=>by cases hp⟩
 rw[hr];rcases h1 with rfl | ⟨rfl,e⟩
 ·rfl
 rw[e];rfl
def Qpm (h:b.length<=4294967295)(hb:Rt b){m n:Int}(hm:0<=m)(hn:0<=n/\n<=1048576):∃r,Mm b m n=C r/\Rt r/\(∀k,QD r k=if k=m then n else QD b k)/\r.length<=b.length+1:=by
 have hl:b.length<=maxLen:=by unfold maxLen;omega
 unfold Mm;obtain⟨⟨dn,out⟩,hr,h1,h2,h3,h4⟩:=AE (body:=λst:Bool×Int×QBg=>Uu b m n st.1 st.2.1 st.2.2) b.length
  (λi s=>s.2.1=(i:Int)/\(s.1=true↔∃p∈b.take i,m<=p.1)/\GD s.2.2/\(∀p,p∈s.2.2↔(p.1≠m/\p∈b.take i)\/(s.1=true/\0<n/\p=(m,n)))/\s.2.2.length<=i+(bif s.1 then 1 else 0))
  (λr=>(r.1=true↔∃p∈b,m<=p.1)/\GD r.2/\(∀p,p∈r.2↔(p.1≠m/\p∈b)\/(r.1=true/\0<n/\p=(m,n)))/\r.2.length<=b.length+(bif r.1 then 1 else 0)) (λi s hi hI=>by
   obtain⟨d,a,out⟩:=s;obtain⟨h1,h2,h3,h4,h5⟩:=hI;replace h1:a=(i:Int):=h1;subst h1;replace h2:d=true↔∃p∈b.take i,m<=p.1:=h2;replace h3:GD out:=h3;replace h4:∀p,p∈out↔(p.1≠m/\p∈b.take i)\/(d=true/\0<n/\p=(m,n)):=h4;replace h5:out.length<=i+(bif d then 1 else 0):=h5;have hx:b[i]? = C b[i]:=QN hi;have hup:=Qpl hb.1 hi;left;show ∃s',Uu b m n d i out=_/\_;unfold Uu Qca Qcb LE;rw[Qi (by omega),Qq];have own:∀(d':Bool) (O:QBg),(d'=true↔∃p∈b.take (i+1),m<=p.1)->GD O->(∀p,p∈O↔(p.1≠m/\p∈b.take i)\/(d'=true/\0<n/\p=(m,n)))->O.length<=i+(bif d' then 1 else 0)->(∀p∈O,b[i].1≠m->p.1<b[i].1)->
     ∃s',Co b i m d' O=C (.inl s')/\(s'.2.1=((i+1:Nat):Int)/\(s'.1=true↔∃p∈b.take (i+1),m<=p.1)/\GD s'.2.2/\(∀p,p∈s'.2.2↔(p.1≠m/\p∈b.take (i+1))\/(s'.1=true/\0<n/\p=(m,n)))/\s'.2.2.length<=i+1+(bif s'.1 then 1 else 0)):=λd' O g1 g2 g3 g4 g5=>by
    unfold Co LD;have hdl:(bif d' then 1 else 0:Nat)<=1:=by cases d'<;>decide
    rw[QQ,hx];simp only[Qa];by_cases e:b[i].1=m
    ·rw[show(b[i].1 != m)=false by simpa using e];refine⟨_,rfl,Qr hi hl,g1,g2,λp=>?_,by show O.length<=_;omega⟩;show p∈O↔_;rw[g3,Cw hi,Wr,Lf];constructor
     ·rintro (⟨x1,x2⟩|x)
      ·exact .inl ⟨x1,.inl x2⟩
      exact .inr x
     rintro (⟨x1,x2 | rfl⟩|x)
     ·exact .inl ⟨x1,x2⟩
     ·exact absurd e x1
     exact .inr x
    rw[show(b[i].1 != m)=true by simpa using e,Qq,YI (by simp;omega)];refine⟨_,rfl,Qr hi hl,g1,Qbl.2 ⟨g2,λp hp=>g5 p hp e⟩,λp=>?_,by show(O++[b[i]]).length<=_;rw[Gb];simp;omega⟩;show p∈O++[b[i]]↔_;rw[Wr,Lf,g3,Cw hi,Wr,Lf];constructor
    ·rintro ((⟨x1,x2⟩|x) | rfl)
     ·exact .inl ⟨x1,.inl x2⟩
     ·exact .inr x
     exact .inl ⟨e,.inr rfl⟩
    rintro (⟨x1,x2 | x2⟩|x)
    ·exact .inl (.inl ⟨x1,x2⟩)
    ·exact .inr x2
    exact .inl (.inr x)
   have grow:∀p:Int×Int,p∈b.take (i+1)↔p∈b.take i\/p=b[i]:=λp=>by rw[Cw hi,Wr,Lf]
   cases d with
   | true=>
    obtain⟨q,hq,hq2⟩:=h2.1 rfl;rw[show(!true)=false from rfl,Qd,Qa,Qd];exact own true out ⟨λ_=>⟨q,(grow q).2 (.inl hq),hq2⟩,λ_=>rfl⟩ h3 h4 h5 λp hp _=>by
     rcases(h4 p).1 hp with⟨_,x⟩|⟨_,_,rfl⟩
     ·exact hup p x
     have:=hup q hq;show m<_;omega
   | false=>
    have low:∀p∈b.take i,p.1<m:=λp hp=>by
     apply Classical.byContradiction;intro hc;have:=h2.2 ⟨p,hp,by omega⟩;cases this
    rw[show(!false)=true from rfl,Qq,QQ,hx];simp only[Qa];by_cases e:m<=b[i].1
    ·rw[Qi e,Qq];have g1:(true=true↔∃p∈b.take (i+1),m<=p.1):=⟨λ_=>⟨b[i],(grow _).2 (.inr rfl),e⟩,λ_=>rfl⟩;by_cases hn0:0<n
     ·rw[Qi hn0,Qq,YI (by simp only[Qd]at h5;simp;omega),Qa];refine own true (out++[(m,n)]) g1 (Qbl.2 ⟨h3,λp hp=>?_⟩) (λp=>?_) (by simp only[Qd]at h5;simp;omega) λp hp he=>?_
      ·rcases(h4 p).1 hp with⟨_,x⟩|⟨x,_⟩
       ·exact low p x
       cases x
      ·rw[Wr,Lf,h4];constructor
       ·rintro ((x | ⟨x,_⟩) | rfl)
        ·exact .inl x
        ·cases x
        exact .inr ⟨rfl,hn0,rfl⟩
       rintro (x | ⟨_,_,x⟩)
       ·exact .inl (.inl x)
       exact .inr x
      rcases Wr.1 hp with hp | hp
      ·rcases(h4 p).1 hp with⟨_,x⟩|⟨x,_⟩
       ·exact hup p x
       cases x
      simp at hp;subst hp;show m<_;omega
     rw[Qj hn0,Qd];refine own true out g1 h3 (λp=>?_) (by simp only[Qd]at h5;simp;omega) λp hp he=>?_
     ·rw[h4];constructor
      ·rintro (x | ⟨x,_⟩)
       ·exact .inl x
       cases x
      rintro (x | ⟨_,x,_⟩)
      ·exact .inl x
      exact absurd x hn0
     rcases(h4 p).1 hp with⟨_,x⟩|⟨x,_⟩
     ·exact hup p x
     cases x
    rw[Qj e,Qd];refine own false out ⟨(λx=>by cases x),λ⟨p,hp,hp2⟩=>?_⟩ h3 h4 h5 λp hp he=>?_
    ·rcases(grow p).1 hp with x | rfl
     ·have:=low p x;omega
     exact absurd hp2 e
    rcases(h4 p).1 hp with⟨_,x⟩|⟨x,_⟩
    ·exact hup p x
    cases x) (λs hI=>by
   obtain⟨d,a,out⟩:=s;obtain⟨h1,h2,h3,h4,h5⟩:=hI;replace h1:a=(b.length:Int):=h1;subst h1;rw[BY]at h2 h4;refine⟨(d,out),?_,h2,h3,h4,h5⟩;show Uu b m n d b.length out=_;unfold Uu;rw[Qj (by omega)];rfl) (false,0,[]) ⟨rfl,by simp,by simp[GD],by simp,by simp⟩
 rw[hr,Qa];show ∃r,Sa n m dn out=C r/\_;unfold Sa LF;have fin:∀r:QBg,GD r->(∀p,p∈r↔(p.1≠m/\p∈b)\/(0<n/\p=(m,n)))->Rt r/\∀k,QD r k=if k=m then n else QD b k:=λr hA hmem=>by
  refine⟨⟨hA,λp hp=>?_⟩,λk=>?_⟩
  ·rcases(hmem p).1 hp with⟨_,x⟩|⟨x,rfl⟩
   ·exact hb.2 p x
   exact⟨hm,by show 1<=n;omega,hn.2⟩
  by_cases e:k=m
  ·subst e;rw[if_pos rfl];by_cases hn0:0<n
   ·exact Eu hA.nd ((hmem (k,n)).2 (.inr ⟨hn0,rfl⟩))
   unfold QD;rw[OM.2 λp hp=>?_]
   ·show(0:Int)=n;omega
   rcases(hmem p).1 hp with⟨x,_⟩|⟨x,_⟩
   ·exact x
   exact absurd x hn0
  rw[if_neg e];unfold QD;congr 1;cases hq:Xa b k with
  | some v=>exact(JZ hA.nd).2 ((hmem (k,v)).2 (.inl ⟨e,(JZ hb.1.nd).1 hq⟩))
  | none=>
   refine OM.2 λp hp=>?_;rcases(hmem p).1 hp with⟨_,x⟩|⟨_,rfl⟩
   ·exact OM.1 hq p x
   exact λx=>e x.symm
 cases dn with
 | true=>
  obtain⟨f1,f2⟩:=fin out h2 λp=>by rw[h3];simp
  exact⟨out,rfl,f1,f2,by simpa using h4⟩
 | false=>
  have low:∀p∈b,p.1<m:=λp hp=>by
   apply Classical.byContradiction;intro hc;have:=h1.2 ⟨p,hp,by omega⟩;cases this
  by_cases hn0:0<n
  ·rw[Qi hn0];simp only[Qd,Om]at h4;obtain⟨f1,f2⟩:=fin (out++[(m,n)]) (Qbl.2 ⟨h2,λp hp=>by
    rcases(h3 p).1 hp with⟨_,x⟩|⟨x,_⟩
    ·exact low p x
    ·cases x⟩) λp=>by
    rw[Wr,Lf,h3];constructor
    ·rintro ((x | ⟨x,_⟩) | rfl)
     ·exact .inl x
     ·cases x
     exact .inr ⟨hn0,rfl⟩
    rintro (x | ⟨_,x⟩)
    ·exact .inl (.inl x)
    exact .inr x
   refine⟨out++[(m,n)],?_,f1,f2,by simp;omega⟩;rw[show(!false&&true)=true from rfl,Qq,YI (by simp;omega)];rfl
  rw[Qj hn0];obtain⟨f1,f2⟩:=fin out h2 λp=>by
   rw[h3];constructor
   ·rintro (x | ⟨x,_⟩)
    ·exact .inl x
    cases x
   rintro (x | ⟨x,_⟩)
   ·exact .inl x
   exact absurd x hn0
  exact⟨out,rfl,f1,f2,by simp only[Qd,Om]at h4;omega⟩
def Qpn (hb:GD b)(h:i<b.length)(k:Int):QD (b.take (i+1)) k=if k=b[i].1 then b[i].2 else QD (b.take i) k:=by
 have O:GD (b.take (i+1)):=hb.sublist (List.take_sublist _ _);by_cases e:k=b[i].1
 ·subst e;rw[if_pos rfl];exact Eu O.nd (by rw[Cw h];exact QjN _ YY)
 rw[if_neg e];unfold QD;congr 1;have h0:GD (b.take i):=hb.sublist (List.take_sublist _ _);cases hq:Xa (b.take i) k with
 | some v=>exact(JZ O.nd).2 (by rw[Cw h];exact TN _ ((JZ h0.nd).1 hq))
 | none=>
  refine OM.2 λp hp=>?_;rw[Cw h]at hp;rcases Wr.1 hp with hp | hp
  ·exact OM.1 hq p hp
  simp at hp;subst hp;exact λx=>e x.symm
def QuE (h:GD b)(O:i<b.length):QD (b.take i) b[i].1=0:=by
 unfold QD;rw[OM.2 λp hp=>by have:=Qpl h O p hp;omega];rfl
def Qpo {a:QBg}(h:a.length+b.length<=4294967290):CI a b=JB a b:=by
 unfold CI Qdu Qdv;have ha:a.length<=maxLen:=by unfold maxLen;omega
 have hb:b.length<=maxLen:=by unfold maxLen;omega
 rw[Hh ha,Hh hb,Qa];rcases Ud a b (by omega)with⟨h1,h2⟩|⟨h1,h2,⟨k,h3⟩,h4⟩|⟨h1,h2,r,h3,h4,h5,h6⟩
 ·rw[h2,<-YV,<-YV]at *;cases ra:Ea (-1) a with
  | false=>rfl
  | true=>
   cases rb:Ea (-1) b with
   | false=>rfl
   | true=>exact absurd ⟨ra,rb⟩ h1
 all_goals
  rw[YV.2 h1,YV.2 h2];simp only[Jo,Qd,Qa,My,Lb,Gq];rw[YI (by omega),Qa];obtain⟨q,hq,hp⟩:=AE (body:=λst:Int×QBg=>Es b st.1 st.2) b.length
   (λi s=>s.1=(i:Int)/\Rt s.2/\(∀k,QD s.2 k=QD a k+QD (b.take i) k)/\s.2.length<=a.length+i)
   (λq=>(q=.inl ()/\∃k,1048576<QD a k+QD b k)\/∃r,q=.inr r/\Rt r/\∀k,QD r k=QD a k+QD b k) (λi s hi hI=>by
    obtain⟨x,out⟩:=s;obtain⟨O,g2,g3,g4⟩:=hI;replace O:x=(i:Int):=O;subst O;replace g2:Rt out:=g2;replace g3:∀k,QD out k=QD a k+QD (b.take i) k:=g3;replace g4:out.length<=a.length+i:=g4;have hx:b[i]? = C b[i]:=QN hi;have hbi:=‹Rt b›.2 _ (Xs hi);show(∃s',Es b i out=_/\_)\/∃r,Es b i out=_/\_;unfold Es;rw[Qi (by omega),Qq,QQ,hx];simp only[Qa];have hc:=‹Rt a›.cnt b[i].1;rw[QgJ (by unfold maxLen;omega) g2,Qa,g3,QuE ‹Rt b›.1 hi,Int.add_zero,Xj (by omega)];by_cases e:1048576<QD a b[i].1+b[i].2
    ·rw[Qi e];refine .inr ⟨_,rfl,.inl ⟨rfl,b[i].1,?_⟩⟩;rw[Eu ‹Rt b›.1.nd (Xs hi)];exact e
    ·rw[Qj e,Qd];obtain⟨r,r1,r2,r3,r4⟩:=Qpm (b:=out) (by omega) g2 (m:=b[i].1) (n:=QD a b[i].1+b[i].2) (by omega) (by omega);rw[r1,Qa];refine .inl ⟨_,rfl,Qr hi hb,r2,λk=>?_,by show r.length<=_;omega⟩;show QD r k=_;rw[r3,Qpn ‹Rt b›.1 hi,g3];by_cases ek:k=b[i].1
     ·subst ek;rw[if_pos rfl,if_pos rfl]
     rw[if_neg ek,if_neg ek]) (λs hI=>by
    obtain⟨x,out⟩:=s;obtain⟨O,g2,g3,g4⟩:=hI;replace O:x=(b.length:Int):=O;subst O;rw[BY]at g3;refine⟨.inr out,?_,.inr ⟨out,rfl,g2,g3⟩⟩;show Es b b.length out=_;unfold Es;rw[Qj (by omega)];rfl) (0,a) ⟨rfl,by assumption,λk=>by simp[QD,Xa],by simp⟩
  rw[hq]
 ·rcases hp with⟨rfl,_⟩|⟨r,rfl,r1,r2⟩
  ·rw[h4];rfl
  have:=r1.cnt k;rw[r2]at this;omega
 rcases hp with⟨rfl,k,hk⟩|⟨r',rfl,r1,r2⟩
 ·have:=h4.cnt k;rw[h5]at this;omega
 have:r'=r:=QrN r1 h4 λk=>by rw[r2,h5]
 subst this;rw[h3];rfl
def Qh5 {a:QBg}(ha:a.length<=maxLen)(hb:b.length<=maxLen):FO a b=Mf a b:=by
 unfold FO Zm Zn;rw[Hh ha,Hh hb,Qa];obtain⟨r,h1,h⟩:=LJ a b ha hb;rw[h1];cases ra:Ea (-1) a with
 | false=>
  have:r=false:=by
   cases r with
   | false=>rfl
   | true=>have:=YV.2 (h.1 rfl).1;rw[ra]at this;cases this
  rw[this];rfl
 | true=>
  cases rb:Ea (-1) b with
  | false=>
   have:r=false:=by
    cases r with
    | false=>rfl
    | true=>have:=YV.2 (h.1 rfl).2.1;rw[rb]at this;cases this
   rw[this];rfl
  | true=>
   have h3:=YV.1 ra;have O:=YV.1 rb;simp only[Jo,Qd,Qa];rw[Px (body:=λst:Int=>GH a b st) (l:=a) (λi=>(i:Int)) (λ_ x=>decide (QD b x.1<x.2)) (.inl ()) (.inr ()) (λi x hi hx=>by
    show GH a b i=_;unfold GH;rw[Qi (by omega),Qq,QQ,hx];simp only[Qa];rw[QgJ hb O,Qa,Qr hi ha];cases decide (QD b x.1<x.2)<;>rfl) (by
    show GH a b a.length=_;unfold GH;rw[Qj (by omega),Qd]) (s0:=0) rfl,Qa]
   have e:∀(l:QBg) (k:Nat),CJ (λ_ x=>decide (QD b x.1<x.2)) k l=l.any λp=>decide (QD b p.1<p.2):=λl=>by
    induction l with
    | nil=>intro k;rfl
    | cons x l ih=>intro k;rw[CJ,ih,List.any_cons]
   rw[e];have aw:=QeC h3 O;cases hq:a.any λp=>decide (QD b p.1<p.2)with
   | false=>rw[h.2 ⟨h3,O,aw.1 hq⟩];rfl
   | true=>
    have:r=false:=by
     cases r with
     | false=>rfl
     | true=>rw[aw.2 (h.1 rfl).2.2]at hq;cases hq
    rw[this];rfl
def QgK {σ ρ:Type}{b1 b2:σ->O_ (σ⊕ρ)}(n:Nat)(I:Nat->σ->Prop)(he:∀i s,I i s->b1 s=b2 s)(hn:∀i s O,I i s->b2 s=C (.inl O)->i<n/\I (i+1) O):∀s0,I 0 s0->Qt b1 s0=Qt b2 s0:=by
 have key:∀(k i:Nat) s,n<=i+k->I i s->Qt b1 s=Qt b2 s:=by
  intro k
  induction k with
  | zero=>
   intro i s hk hI;rw[Yn,Yn (body:=b2),he i s hI];cases hb:b2 s with
   | none=>rfl
   | some o=>
    cases o with
    | inr r=>rfl
    | inl O=>have:=(hn i s O hI hb).1;omega
  | succ k ih=>
   intro i s hk hI;rw[Yn,Yn (body:=b2),he i s hI];cases hb:b2 s with
   | none=>rfl
   | some o=>
    cases o with
    | inr r=>rfl
    | inl O=>exact ih (i+1) O (by omega) (hn i s O hI hb).2
 exact λs0 h=>key n 0 s0 (by omega) h
structure RN (n:Qh):Prop where
 c:∀c∈n.Colours,IC c
 g:∀t∈n.Tasks,RE t.Guard
 i:∀t∈n.Tasks,∀a∈t.Ins,RE a.Expr
 o:∀t∈n.Tasks,∀a∈t.Outs,RE a.Expr
def QjK (h:XE n)(hr:RN n)(task:Int)(O:LI_):∃r,WM n task O=C r/\IE n task O=C r/\(r.2=0->(∀x∈r.1,XQ x)/\∃e,idx n.Tasks task=C e/\e∈n.Tasks):=by
 unfold WM IE;cases hq:((decide (task<0))||(decide ((n.Tasks.length:Int)<=task)))with
 | true=>exact⟨_,rfl,rfl,λh=>by cases h⟩
 | false=>
  simp only[KS,Xq]at hq;have he:idx n.Tasks task=C (n.Tasks[task.toNat]'(by omega)):=So (by omega) (by omega);have hm:(n.Tasks[task.toNat]'(by omega))∈n.Tasks:=Xs _;rw[Qd,Qd,he,Qa,Qa];generalize (n.Tasks[task.toNat]'(by omega))=e at he hm;have hv:=(h.tk e hm).1;by_cases hl:(O.length:Int)=(e.Vars.length:Int)
  ·rw[show((O.length:Int) != (e.Vars.length:Int))=false by simpa using hl,Qd,Qd,Am (by simp;omega),Qa];have mx:(16:Nat)<=maxLen:=by decide
   obtain⟨r,q,e1,e2,e3⟩:=QeJ (b1:=λst:Int×LI_=>DD e O n st.1 st.2) (b2:=λst:Int×LI_=>FK e O n st.1 st.2) e.Vars.length
    (λi s t=>s=((i:Int),t.2++List.replicate (e.Vars.length-i) 0)/\t.1=(i:Int)/\t.2.length=i/\∀x∈t.2,XQ x) (λr q=>r=q/\∀l,r=.inr l->∀x∈l,XQ x) (λi s t hi hI=>by
     obtain⟨a,out⟩:=t;obtain⟨rfl,h2,h3,h4⟩:=hI;replace h2:a=(i:Int):=h2;subst h2;replace h3:out.length=i:=h3;replace h4:∀x∈out,XQ x:=h4;show(i<e.Vars.length/\∃s' t',DD e O n i (out++List.replicate (e.Vars.length-i) 0)=_/\FK e O n i out=_/\_)\/∃r q,DD e O n i (out++List.replicate (e.Vars.length-i) 0)=_/\FK e O n i out=_/\_;unfold DD FK;by_cases hlt:i<e.Vars.length
     ·rw[Qi (by omega:(i:Int)<(e.Vars.length:Int)),Qq,Qq,QQ,QN hlt,QQ,QN (show i<O.length by omega)];simp only[Qa];obtain⟨y,y1,y2,y3⟩:=QpN h.k.1 hr.c (e.Vars[i]).Colour (O[i]'(by omega));have hrep:List.replicate (e.Vars.length-i) (0:Int)=0::List.replicate (e.Vars.length-(i+1)) 0:=by
       rw[show e.Vars.length-i=(e.Vars.length-(i+1))+1 by omega];rfl
      rw[y1,y2,Qa,Qa];cases y.2 with
      | false=>exact .inr ⟨_,_,rfl,rfl,rfl,λl h=>by cases h⟩
      | true=>
       left;simp only[Jo,Qd];rw[QQ,hrep,JG (by omega),h3,Nat.sub_self,YI (by simp;omega)];refine⟨hlt,_,_,rfl,rfl,?_,Qr hlt (by omega),by simp;omega,λx hx=>?_⟩
       ·rw[Qr hlt (by omega),Ue,List.set_append_right _ _ (by omega),h3,Nat.sub_self,Ga];rfl
       rcases Wr.1 hx with hx | hx
       ·exact h4 x hx
       simp at hx;subst hx;exact y3
     right;rw[Qj (by omega:¬(i:Int)<(e.Vars.length:Int))];have:i=e.Vars.length:=by omega
     subst this;refine⟨_,_,rfl,rfl,?_,λl hl=>?_⟩
     ·simp
     cases hl;simpa using h4) (0,List.replicate (e.Vars.length:Int).toNat 0) (0,[]) ⟨by simp,rfl,rfl,λx h=>by cases h⟩
   obtain⟨e3,e4⟩:=e3;subst e3;rw[e1,e2];rcases r with r | r
   ·exact⟨_,rfl,rfl,λh=>by cases h⟩
   exact⟨_,rfl,rfl,λ_=>⟨e4 r rfl,e,rfl,hm⟩⟩
  rw[show((O.length:Int) != (e.Vars.length:Int))=true by simpa using hl];exact⟨_,rfl,rfl,λh=>by cases h⟩
def Qc9 (h:XE n)(hr:RN n){l:L_ Jf}(hl:QX Ip l)(hre:∀a∈l,RE a.Expr){O:LI_}(hw:O.length<=1000)(hv:∀x∈env,XQ x):Et n l O env=Yo n l O env:=by
 unfold Et Yo;congr 1;funext _;have mx:(1000:Nat)<=maxLen:=by decide
 have e:Qt (λst:Int×L_ QBg=>CY O l env n st.1 st.2) (0,(List.replicate (n.Places.length:Int).toNat (([]:QBg):QBg)))=Qt (λst:Int×L_ QBg=>Wv O l env n st.1 st.2) (0,(List.replicate (n.Places.length:Int).toNat (([]:QBg):QBg))):=by
  refine QgK O.length (λi s=>s.1=(i:Int)/\i<=O.length/\∀b∈s.2,b.length<=i) (λi s hI=>?_) (λi s s' hI hs=>?_) _ ⟨rfl,by omega,λb hb=>by rw[QgL hb];simp⟩
  ·obtain⟨a,m⟩:=s;obtain⟨h1,h2,h3⟩:=hI;replace h1:a=(i:Int):=h1;subst h1;replace h3:∀b∈m,b.length<=i:=h3;show CY O l env n i m=Wv O l env n i m;unfold CY Wv;cases decide ((i:Int)<(O.length:Int))with
   | false=>rfl
   | true=>
    rw[Qq,Qq];cases idx O (i:Int)with
    | none=>rfl
    | some k=>
     simp only[Qa];cases ((decide (k<0))||(decide ((l.length:Int)<=k)))with
     | true=>rfl
     | false=>
      rw[Qd,Qd];cases hk:idx l k with
      | none=>rfl
      | some a=>
       simp only[Qa];have ha:a∈l:=Xx (Jd hk).2;obtain⟨x,x1,x2,x3⟩:=Qno (hl.2 a ha).2 (hre a ha) hv;rw[x1,x2,Qa,Qa];cases (x.2 != 0)with
       | true=>rfl
       | false=>
        rw[Qd,Qd];cases ((decide (a.Place<0))||(decide ((n.Places.length:Int)<=a.Place)))with
        | true=>rfl
        | false=>
         rw[Qd,Qd];cases idx n.Places a.Place with
         | none=>rfl
         | some p=>
          simp only[Qa];obtain⟨y,y1,y2⟩:=QpO h.k.1 hr.c p.Colour x.1 x3;rw[y1,y2,Qa,Qa];cases hy:y.2 with
          | false=>rfl
          | true=>
           simp only[Jo,Qd];have y0:=AG (QoV n.Colours p.Colour x.1 h.k.1) y1 hy;cases hb:idx m a.Place with
           | none=>rfl
           | some b=>
            simp only[Qa];have hbl:=h3 b (Xx (Jd hb).2);rw[ZN,Qi y0,Qq,Qa,Qpo (by simp;omega)]
  obtain⟨a,m⟩:=s;obtain⟨h1,h2,h3⟩:=hI;replace h1:a=(i:Int):=h1;subst h1;replace h3:∀b∈m,b.length<=i:=h3;replace hs:Wv O l env n i m=C (.inl s'):=hs;unfold Wv at hs;rcases XU hs with⟨c,hs⟩|⟨_,hs⟩
  ·have hlt:i<O.length:=by simpa using c
   obtain⟨k,_,hs⟩:=QU hs;rcases XU hs with⟨_,hs⟩|⟨_,hs⟩
   ·cases hs
   obtain⟨a,_,hs⟩:=QU hs;obtain⟨x,_,hs⟩:=QU hs;rcases XU hs with⟨_,hs⟩|⟨_,hs⟩
   ·cases hs
   obtain⟨a',_,hs⟩:=QU hs;rcases XU hs with⟨_,hs⟩|⟨_,hs⟩
   ·cases hs
   obtain⟨p,_,hs⟩:=QU hs;obtain⟨y,_,hs⟩:=QU hs;rcases XU hs with⟨_,hs⟩|⟨_,hs⟩
   ·cases hs
   obtain⟨b,hb,hs⟩:=QU hs;obtain⟨o,ho,hs⟩:=QU hs;obtain⟨u,hu,hs⟩:=QU hs;obtain⟨_,_,hs⟩:=QU hs;rcases XU hs with⟨_,hs⟩|⟨cu,hs⟩
   ·cases hs
   cases hs;refine⟨hlt,Qr hlt (by omega),by omega,λc hc=>?_⟩;have hbl:=h3 b (Xx (Jd hb).2);rw[ZN]at ho;have hol:o.length<=1:=by
    rw[<-Option.some.inj ho];cases decide (0<=y.1)<;>simp
   rcases Tw hc with rfl | hc
   ·rcases Ud b o (by omega)with⟨_,e⟩|⟨_,_,_,e⟩|⟨_,_,r,e,_,_,e2⟩
    ·rw[hu]at e;cases e;simp
    ·rw[hu]at e;cases e;simp
    rw[hu]at e;cases e;show r.length<=_;omega
   have:=h3 c hc;omega
  cases hs
 rw[e];all_goals rfl
def ZQ (h:XE n)(O:RN n)(ho:XL n o):UK n o=Yf n o:=by
 unfold UK Yf;obtain⟨r,e1,e2,e3⟩:=QjK h O o.Task o.Vars;rw[e1,e2,Qa,Qa];cases hz:(r.2 != 0)with
 | true=>rfl
 | false=>
  obtain⟨hv,e,he,hm⟩:=e3 (by simpa using hz);rw[Qd,Qd,he,Qa,Qa,Qc9 h O (h.k.2.2.1.2 e hm).2.2.2.2.2.1 (O.i e hm) (by have:=ho.2.1;omega) hv]
def QlF (h:XE n)(O:RN n)(ho:XL n o):UL n o=(WM n o.Task o.Vars).bind λx=>bif (x.2 != 0)then C ([],x.2)else(idx n.Tasks o.Task).bind λe=>(Yo n e.Outs o.Outs x.1).bind λy=>C (y.1,y.2):=by
 unfold UL;obtain⟨r,e1,e2,e3⟩:=QjK h O o.Task o.Vars;rw[e1,e2,Qa,Qa];cases hz:(r.2 != 0)with
 | true=>rfl
 | false=>
  obtain⟨hv,e,he,hm⟩:=e3 (by simpa using hz);rw[Qd,Qd,he,Qa,Qa,Qc9 h O (h.k.2.2.1.2 e hm).2.2.2.2.2.2.1 (O.o e hm) (by have:=ho.2.2;omega) hv]
def Qh6 {a:L_ QBg}(h:QX (QX λ_=>True) a)(O:QX (QX λ_=>True) m):FP a m=DG a m:=by
 unfold FP DG XC;cases ((a.length:Int) != (m.length:Int))with
 | true=>rfl
 | false=>
  rw[Qd,Qd];have e:(λst=>NL a m st)=λst=>QL a m st:=by
   funext i;unfold NL QL;cases decide (i<(a.length:Int))with
   | false=>rfl
   | true=>
    rw[Qq,Qq];cases hx:idx a i with
    | none=>rfl
    | some x=>
     cases hy:idx m i with
     | none=>rfl
     | some y=>
      simp only[Qa];rw[Qh5 (h.2 x (Xx (Jd hx).2)).1 (O.2 y (Xx (Jd hy).2)).1]
  rw[e];cases Qt (λst=>QL a m st) 0 with
  | none=>rfl
  | some q=>cases q<;>rfl
def Qp5 (a b:LI_)(h:a.length<=maxLen):Wx a b=C (decide (a=b)):=by
 rw[<-Qlv a b h];rfl
def QlG (O h:Int)(row:LI_):FN O h row=C (decide (row∈Mu O h)):=by
 unfold FN;obtain⟨e,hx⟩:=Qr0 O h;rw[Qpi,e,Qa];generalize Mu O h=x at hx;have mx:(16:Nat)<=maxLen:=by decide
 have hl:=hx.1;rw[Px (body:=λst:Int=>GG x row st) (l:=x) (λi=>(i:Int)) (λ_ y=>decide (y=row)) (.inl ()) (.inr ()) (λi y hi hy=>by
  show GG x row i=_;unfold GG;rw[Qi (by omega),Qq,QQ,hy,Qa,Qp5 _ _ (by have:=hx.2 y (Xx hy);omega),Qa,Qr hi (by omega)];cases decide (y=row)<;>rfl) (by
  show GG x row x.length=_;unfold GG;rw[Qj (by omega),Qd]) (s0:=0) rfl,Qa]
 by_cases hm:row∈x
 ·obtain⟨i,hi⟩:=Lc.1 hm;have:CJ (λ_ y=>decide (y=row)) 0 x=true:=Qjo.2 ⟨i,row,hi,by simp⟩;rw[this,Qi hm];rfl
 have:CJ (λ_ y=>decide (y=row)) 0 x=false:=ZK.2 λi y hy=>Qj λe=>hm (e▸Xx hy);rw[this,Qj hm];rfl
def Qvr {l:LI_}(hl:l.length<=maxLen)(k:Int):ZI l k=C (decide (k∈l)):=by
 unfold ZI;rw[Px (body:=λst:Int=>BT l k st) (l:=l) (λi=>(i:Int)) (λ_ y=>y==k) (.inl ()) (.inr ()) (λi y O hy=>by
  show BT l k i=_;unfold BT;rw[Qi (by omega),Qq,QQ,hy,Qa,Qr O hl];cases (y==k)<;>rfl) (by
  show BT l k l.length=_;unfold BT;rw[Qj (by omega),Qd]) (s0:=0) rfl,Qa]
 by_cases h:k∈l
 ·obtain⟨i,O⟩:=Lc.1 h;have:CJ (λ_ y=>y==k) 0 l=true:=Qjo.2 ⟨i,k,O,by simp⟩;rw[this,Qi h];rfl
 have:CJ (λ_ y=>y==k) 0 l=false:=ZK.2 λi y hy=>by
  have:=Xx hy;simp only[beq_eq_false_iff_ne];intro e;exact h (e▸this)
 rw[this,Qj h];rfl
def Qvs {l:LI_}(O:l.length<=maxLen)(k:Int):YH l k=C (decide (k∈l)):=by
 unfold YH Dx;rw[Qsh (l:=l) (λy=>k==y) (λi x h hx=>by
  show Jg l k i=_;unfold Jg;rw[Qi (by omega),Qq,QQ,hx,Qa,Qr h O];cases (k==x)<;>rfl) (by
  show Jg l k l.length=_;unfold Jg;rw[Qj (by omega),Qd])]
 have e:decide (k∈l)=l.any λy=>k==y:=by
  apply IZ.2;simp[Oj]
 rw[e,<-QtG];cases Kg (λ_ y=>k==y) 0 l<;>rfl
def chP (h:Nat):Bool:=((YT 3 h).getD []).all λrow=>(List.range h).all λk=>decide ((k:Int)∈row)||decide (Vb row k=C (GO (row++[(k:Int)])))
def Qvt {O:Nat}{row:LI_}(h:row∈Mu 3 O){k:Nat}(hk:k<O)(hn:(k:Int) ∉ row):Vb row k=C (GO (row++[(k:Int)])):=by
 by_cases h4:O<=4
 ·have c:chP O=true:=by
   rcases show O=0\/O=1\/O=2\/O=3\/O=4 by omega with e | e | e | e | e<;>subst e<;>kernel_rfl
  have:=XG.1 (XG.1 c row h) k (Le.2 hk);rw[Qj hn,Bool.false_or]at this;exact Xc this
 exfalso;unfold Mu YT at h;have:((decide ((O:Int)<0))||((decide ((16:Int)<(O:Int)))||(((3:Int)==3)&&(decide ((4:Int)<(O:Int))))))=true:=by simp;omega
 rw[this]at h;simp at h
def Qq1 (h:XE n)(hr:RN n)(hm:QX (QX λ_=>True) m)(ho:XL n o){e:QW}(he:e∈n.Tasks)(hj:e.Join=3){z:Int}(hv:∀x∈env,XQ x)(hch:o.Ins∈Mu e.Join e.Ins.length):
  Qt (λst=>WB e o n (env,z) m st) 0=Qt (λst=>Yu (Xm.mk n m e env) o.Ins st) 0:=by
 have hi:=(h.tk e he).2.1;have mx:(1000:Nat)<=maxLen:=by decide
 have hil:=ho.2.1;rw[hj]at hch;refine QgK (b1:=λst=>WB e o n (env,z) m st) (b2:=λst=>Yu (Xm.mk n m e env) o.Ins st) e.Ins.length (λi s=>s=(i:Int)) (λi s hI=>?_) (λi s s' hI O=>?_) 0 rfl
 ·subst hI;show WB e o n (env,z) m i=Yu (Xm.mk n m e env) o.Ins i;unfold WB Yu;rw[hj,show((3:Int)==3)=true from rfl,QbC];by_cases hlt:i<e.Ins.length
  ·rw[Qi (by omega:(i:Int)<(e.Ins.length:Int)),Qq,Qq,Qvr (by omega),Qvs (by omega),Qa,Qa];by_cases hin:(i:Int)∈o.Ins
   ·rw[Qi hin];rfl
   rw[Qj hin,Qd,Qd,Qvt hch hlt hin,Qm8 _ (by omega),Qa,Qa,YI (by simp;omega),Qa,QoX _ (by simp;omega),Qa,YI (Ha _),Qa];show(Et n e.Ins _ env).bind _=_;rw[Qc9 h hr (h.k.2.2.1.2 e he).2.2.2.2.2.1 (hr.i e he) (by rw[Ha];simp;omega) hv];show _=(Yo n e.Ins _ env).bind _;cases hx:Yo n e.Ins (GO (o.Ins++[(i:Int)])) env with
   | none=>rfl
   | some x=>
    simp only[Qa];have:=AG (Pz n e.Ins _ env h (h.k.2.2.1.2 e he).2.2.2.2.2.1 (by rw[Ha];simp;omega)) hx;unfold Qbc CE;cases hz:(x.2==0)with
    | false=>rfl
    | true=>
     rw[Qq,Qq,Qh6 ((this (by simpa using hz)).1.len h (by rw[Ha];simp;omega)) hm];rfl
  rw[Qj (by omega:¬(i:Int)<(e.Ins.length:Int))];rfl
 subst hI;replace O:Yu (Xm.mk n m e env) o.Ins i=C (.inl s'):=O;unfold Yu at O;rcases XU O with⟨c,O⟩|⟨_,O⟩
 ·have hlt:i<e.Ins.length:=by
   have:(i:Int)<(e.Ins.length:Int):=Xc c;omega
  refine⟨hlt,?_⟩;have fin:∀s',KY (i:Int)=C (.inl s')->s'=((i+1:Nat):Int):=λs' h=>by
   unfold KY at h;rw[<-Qr (n:=e.Ins.length) hlt (by omega)];cases h;rfl
  obtain⟨_,_,O⟩:=QU O;rcases XU O with⟨_,O⟩|⟨_,O⟩
  ·exact fin s' O
  obtain⟨_,_,O⟩:=QU O;obtain⟨_,_,O⟩:=QU O;obtain⟨_,_,O⟩:=QU O;obtain⟨_,_,O⟩:=QU O;obtain⟨_,_,O⟩:=QU O;obtain⟨_,_,O⟩:=QU O;unfold CF at O;rcases XU O with⟨_,O⟩|⟨_,O⟩
  ·cases O
  exact fin s' O
 cases O
def QeK (h:XE n)(hr:RN n)(hm:QX (QX λ_=>True) m)(ho:XL n o):BU n m o=Yl n m o:=by
 have hN:=ZQ h hr ho;have hG:=QlF h hr ho;unfold Yf at hN;unfold BU Yl Jx;obtain⟨⟨O,z⟩,e1,e2,e3⟩:=QjK h hr o.Task o.Vars;rw[e1]at hN hG;rw[e1,e2];simp only[Qa]at hN hG ⊢;cases hz:(z != 0)with
 | true=>
  have hz2:(z==0)=false:=by simpa using hz
  rw[Qq,Qq,Qa];simp only[hz2,Qd];unfold JN;rw[hz];rfl
 | false=>
  have hz0:z=0:=by simpa using hz
  obtain⟨hv,e,he,hmem⟩:=e3 hz0;rw[hz,Qd,he,Qa]at hN hG;rw[Qd,Qd,he,Qa,Qa,Qa];simp only[show((0:Int)==0)=true from rfl,Qq];obtain⟨x,x1,x2,_⟩:=Qno (h.k.2.2.1.2 e hmem).2.2.1 (hr.g e hmem) hv;unfold Yb;simp only[x1,x2,Qa];cases hx:(x.2 != 0)with
  | true=>
   simp only[Qq,Qa];unfold JN;rw[hx];rfl
  | false=>
   simp only[Qd];cases hx0:(x.1==0)with
   | true=>rfl
   | false=>
    simp only[Qd,Qa];unfold JN Ce Cf;simp only[show((0:Int) != 0)=false from rfl,Qd];rw[QlG,QlG,IH,IH,Qa,Qa,Qa];by_cases c1:o.Ins∈Mu e.Join e.Ins.length
    ·by_cases c2:o.Outs∈Mu e.Split e.Outs.length
     ·rw[Qi c1,Qi c2];simp only[Jo,QbD,Qd,Qa];rw[hN];unfold XS Yd;show _=(((Yo n e.Ins o.Ins O).bind _).bind _:O_ Int);have kt:=Pz n e.Ins o.Ins O h (h.k.2.2.1.2 e hmem).2.2.2.2.2.1 (by have:=ho.2.1;omega);obtain⟨T,hT,hT2⟩:=kt;rw[hT];simp only[Qa];cases ht:(T.2 != 0)with
      | true=>
       simp only[Qq,Qa,ht]
      | false=>
       simp only[Qd];rw[Qh6 ((hT2 (by simpa using ht)).1.len h (by have:=ho.2.1;omega)) hm];obtain⟨w,hw,_⟩:=QjC T.1 m ((hT2 (by simpa using ht)).1.len h (by have:=ho.2.1;omega)) hm;rw[hw];simp only[Qa];cases w with
       | false=>rfl
       | true=>
        simp only[Jo,Qd];have fin:Ba n o=(Yo n e.Outs o.Outs O).bind λx=>C x.2:=by
         unfold Ba;rw[hG];cases Yo n e.Outs o.Outs O with
         | none=>rfl
         | some y=>rfl
        by_cases hj:e.Join=3
        ·rw[Qq1 h hr hm ho hmem hj hv c1];simp only[hj,show((3:Int) != 3)=false from rfl,Qd];cases Qt (λst=>Yu (Xm.mk n m e O) o.Ins st) 0 with
         | none=>rfl
         | some q=>
          rcases q with q | q
          ·rfl
          show Ba n o=_;rw[fin];cases Yo n e.Outs o.Outs O<;>rfl
        have hjb:(e.Join==3)=false:=by simpa using hj
        have hjn:(e.Join != 3)=true:=by simpa using hj
        simp only[hjn,Qq,Qa,show((0:Int) != 0)=false from rfl,Qd];have:Qt (λst=>WB e o n (O,z) m st) 0=C (.inr ()):=by
         refine Vf.2 (.done ?_);show WB e o n (O,z) m 0=_;unfold WB;rw[hjb,Bool.and_false];rfl
        rw[this];show Ba n o=_;rw[fin];cases Yo n e.Outs o.Outs O<;>rfl
     rw[Qi c1,Qj c2];rfl
    rw[Qj c1];rfl
def Qsm {a:QBg}(h:a.length+b.length<=4294967290):FQ a b=Jy a b:=by
 unfold FQ Qcd Qce;have ha:a.length<=maxLen:=by unfold maxLen;omega
 have hb:b.length<=maxLen:=by unfold maxLen;omega
 rw[Hh ha,Hh hb,Qa,Qh5 hb ha];obtain⟨w,hw,hw2⟩:=LJ b a hb ha;rw[hw];rcases BX a b (by omega)with⟨O,h2⟩|⟨O,h2,⟨k,h3⟩,h4⟩|⟨O,h2,h3,r,h4,h5,h6,h7⟩
 ·rw[h2,<-YV,<-YV]at *;cases ra:Ea (-1) a with
  | false=>rfl
  | true=>
   cases rb:Ea (-1) b with
   | false=>rfl
   | true=>exact absurd ⟨ra,rb⟩ O
 ·rw[YV.2 O,YV.2 h2,h4];have:w=false:=by
   cases w with
   | false=>rfl
   | true=>have:=(hw2.1 rfl).2.2 k;omega
  rw[this];rfl
 rw[YV.2 O,YV.2 h2,hw2.2 ⟨h2,O,h3⟩,h4];simp only[Jo,Qd,Qa,My,Lb,Gq];rw[YI (by omega),Qa];obtain⟨q,hq,hp1,hp2⟩:=AE (body:=λst:Int×QBg=>Uv b a st.1 st.2) b.length
  (λi s=>s.1=(i:Int)/\Rt s.2/\(∀k,QD s.2 k=QD a k-QD (b.take i) k)/\s.2.length<=a.length+i)
  (λq=>Rt q/\∀k,QD q k=QD a k-QD b k) (λi s hi hI=>by
   obtain⟨x,out⟩:=s;obtain⟨g1,g2,g3,g4⟩:=hI;replace g1:x=(i:Int):=g1;subst g1;replace g2:Rt out:=g2;replace g3:∀k,QD out k=QD a k-QD (b.take i) k:=g3;replace g4:out.length<=a.length+i:=g4;have hx:b[i]? = C b[i]:=QN hi;have hbi:=h2.2 _ (Xs hi);left;show ∃s',Uv b a i out=_/\_;unfold Uv;rw[Qi (by omega),Qq,QQ,hx];simp only[Qa];have hc:=O.cnt b[i].1;have hle:=h3 b[i].1;rw[Eu h2.1.nd (Xs hi)]at hle;rw[QgJ ha O,Qa,Xj (by omega)];obtain⟨r',r1,r2,r3,r4⟩:=Qpm (b:=out) (by omega) g2 (m:=b[i].1) (n:=QD a b[i].1-b[i].2) (by omega) (by omega);rw[r1,Qa];refine⟨_,rfl,Qr hi hb,r2,λk=>?_,by show r'.length<=_;omega⟩;show QD r' k=_;rw[r3,Qpn h2.1 hi,g3];by_cases ek:k=b[i].1
   ·subst ek;rw[if_pos rfl,if_pos rfl]
   ·rw[if_neg ek,if_neg ek]) (λs hI=>by
   obtain⟨x,out⟩:=s;obtain⟨g1,g2,g3,g4⟩:=hI;replace g1:x=(b.length:Int):=g1;subst g1;rw[BY]at g3;refine⟨out,?_,g2,g3⟩;show Uv b a b.length out=_;unfold Uv;rw[Qj (by omega)];rfl) (0,a) ⟨rfl,O,λk=>by simp[QD,Xa],by simp⟩
 rw[hq];have:q=r:=QrN hp1 h5 λk=>by rw[hp2,h6]
 subst this;rfl
def Qpp {a b:L_ QBg}{sum:Bool}{how:QBg->QBg->O_ (QBg×Int)}{body:Int×L_ QBg->O_ ((Int×L_ QBg)⊕(Int⊕L_ QBg))}(N:Nat)(hN:N<=100000)(ha:N<=a.length)(hb:N<=b.length)(hab:N=a.length\/N=b.length)
  (hh:∀x∈a,∀y∈b,(bif sum then CI x y else FQ x y)=how x y) (ht:∀x∈a,∀y∈b,∃z,how x y=C z)
  (hbody:∀(i:Nat) l,body ((i:Int),l)=bif decide ((i:Int)<(N:Int))then(idx a i).bind λx=>(idx b i).bind λy=>(how x y).bind λz=>(idx l i).bind λ_=>bif (z.2 != 0)then C (.inr (.inl z.2))else C (.inl (Qm ((i:Int)+1),l.set i z.1))else C (.inr (.inr l))):
  Qt (λst:Int×L_ QBg=>Uw a b sum st.1 st.2) (0,[])=Qt body (0,List.replicate N []):=by
 have mx:(100000:Nat)<=maxLen:=by decide
 obtain⟨r,q,e1,e2,e3⟩:=QeJ (b1:=λst:Int×L_ QBg=>Uw a b sum st.1 st.2) (b2:=body) N
  (λi s t=>s.1=(i:Int)/\s.2.length=i/\t=((i:Int),s.2++List.replicate (N-i) [])) (λr q=>r=q) (λi s t hi hI=>by
   obtain⟨x,out⟩:=s;obtain⟨h1,h2,rfl⟩:=hI;replace h1:x=(i:Int):=h1;subst h1;replace h2:out.length=i:=h2;show(i<N/\∃s' t',Uw a b sum i out=_/\body ((i:Int),out++List.replicate (N-i) [])=_/\_)\/∃r q,Uw a b sum i out=_/\body ((i:Int),out++List.replicate (N-i) [])=_/\_;rw[hbody];unfold Uw LG;by_cases hlt:i<N
   ·have i1:i<a.length:=by omega
    have i2:i<b.length:=by omega
    obtain⟨z,hz⟩:=ht _ (Xs i1) _ (Xs i2);have h:=hh _ (Xs i1) _ (Xs i2);rw[hz]at h;have hrep:List.replicate (N-i) ([]:QBg)=[]::List.replicate (N-(i+1)) []:=by
     rw[show N-i=(N-(i+1))+1 by omega];rfl
    rw[Qi (by omega:(i:Int)<(a.length:Int)),Qi (by omega:(i:Int)<(b.length:Int)),Qi (by omega:(i:Int)<(N:Int)),QbC,Qq,Qq,QQ,QN i1,QQ,QN i2,QQ,hrep,JG (by omega),h2,Nat.sub_self];simp only[Qa,hz,List.getElem?_cons_zero];have one:(bif sum then(CI a[i] b[i]).bind λO=>bif (O.2 != 0)then C (.inr (.inl O.2))else(chk (decide (i+[O.1].length<=4294967296))).bind λ_=>C (.inl (Qm ((i:Int)+1),out++[O.1]))else(FQ a[i] b[i]).bind λx27=>bif (x27.2 != 0)then C (.inr (.inl x27.2))else(chk (decide (i+[x27.1].length<=4294967296))).bind λ_=>C (.inl (Qm ((i:Int)+1),out++[x27.1])):O_ ((Int×L_ QBg)⊕(Int⊕L_ QBg)))=bif (z.2 != 0)then C (.inr (.inl z.2))else(chk (decide (i+[z.1].length<=4294967296))).bind λ_=>C (.inl (Qm ((i:Int)+1),out++[z.1])):=by
     cases sum with
     | true=>simp only[Qq]at h ⊢;rw[h];rfl
     | false=>simp only[Qd]at h ⊢;rw[h];rfl
    rw[one];cases (z.2 != 0)with
    | true=>exact .inr ⟨_,_,rfl,rfl,rfl⟩
    | false=>
     left;rw[Qd,Qd,YI (by simp;omega)];refine⟨hlt,_,_,rfl,rfl,Qr hlt (by omega),by simp;omega,?_⟩;rw[Qr hlt (by omega),List.set_append_right _ _ (by omega),h2,Nat.sub_self,Ga];rfl
   right;have hf:(decide ((i:Int)<(a.length:Int))&&decide ((i:Int)<(b.length:Int)))=false:=by
    rcases hab with e | e
    ·rw[Qj (by omega:¬(i:Int)<(a.length:Int))];rfl
    rw[Qj (by omega:¬(i:Int)<(b.length:Int)),Bool.and_false]
   rw[hf,Qj (by omega:¬(i:Int)<(N:Int))];exact⟨_,_,rfl,rfl,by rw[show N-i=0 by omega];simp⟩) (0,[]) (0,List.replicate N []) ⟨rfl,rfl,rfl⟩
 rw[e1,e2,e3]
def QeL (a b:Nat):min2 (a:Int) (b:Int)=((min a b:Nat):Int):=by
 unfold min2;split<;>omega
def Qpq {a b:L_ QBg}(hl:a.length<=100000)(h:∀x∈a,∀y∈b,x.length+y.length<=4294967290):GB a b true=WI a b:=by
 unfold GB WI;rw[QeL,Am (by simp;omega),Qa,Ue];rw[Qpp (sum:=true) (how:=JB) (body:=λst:Int×L_ QBg=>KD a b st.1 st.2) (min a.length b.length) (by omega) (by omega) (by omega) (by omega) (λx O y hy=>Qpo (h x O y hy)) (λx O y hy=>by
  rcases Ud x y (by have:=h x O y hy;omega)with⟨_,e⟩|⟨_,_,_,e⟩|⟨_,_,r,e,_⟩<;>exact⟨_,e⟩) (λi l=>by
  show KD a b i l=_;unfold KD;rw[QeL,Ue,QbF,Ue])]
 all_goals cases Qt (λst:Int×L_ QBg=>KD a b st.1 st.2) (0,List.replicate (min a.length b.length) [])with
 | none=>rfl
 | some q=>cases q<;>rfl
def Qsn {a b:L_ QBg}(hl:a.length<=100000)(h:∀x∈a,∀y∈b,x.length+y.length<=4294967290):GB a b false=YK a b:=by
 unfold GB YK;rw[QeL,Am (by simp;omega),Qa,Ue];rw[Qpp (sum:=false) (how:=Jy) (body:=λst:Int×L_ QBg=>Jz a b st.1 st.2) (min a.length b.length) (by omega) (by omega) (by omega) (by omega) (λx O y hy=>Qsm (h x O y hy)) (λx O y hy=>by
  rcases BX x y (by have:=h x O y hy;omega)with⟨_,e⟩|⟨_,_,_,e⟩|⟨_,_,_,r,e,_⟩<;>exact⟨_,e⟩) (λi l=>by
  show Jz a b i l=_;unfold Jz;rw[QeL,Ue,QbF,Ue])]
 all_goals cases Qt (λst:Int×L_ QBg=>Jz a b st.1 st.2) (0,List.replicate (min a.length b.length) [])with
 | none=>rfl
 | some q=>cases q<;>rfl
def Qq2 (h:XE n)(hm:QX (QX λ_=>True) m)(ho:XL n o)(hc:Yl n m o=C 0):∃need,Yf n o=C (need,0):=by
 obtain⟨_,e,he,_,_,_,b,b1,b2,O,b4⟩:=VA.1 ((Qct h hm ho).1 hc);obtain⟨k1,k2,k3,k4,k5,k6⟩:=Nq h b1;unfold Yf;rw[k6,k1];unfold XS at O;rw[k3]at O;obtain⟨x,hx,O⟩:=QU O;rcases XU O with⟨c,O⟩|⟨c,_⟩
 ·rw[Option.some.inj O]at c;cases c
 refine⟨x.1,?_⟩;simp only[Qa,show((0:Int) != 0)=false from rfl,Qd];rw[hx];have:x.2=0:=by simpa using c
 show C (x.1,x.2)=_;rw[this]
def Qso (h:XE n)(hr:RN n){c:Nat}(hc:c<=900000)(hm:Kz n c m)(ho:XL n o):Sc n m o=WJ n m o:=by
 unfold Sc WJ;have hml:=hm.len h (by omega);rw[QeK h hr hml ho];obtain⟨x,hx,_⟩:=QgX n m o h hml ho;rw[hx,Qa,Qa];cases hz:(x != 0)with
 | true=>rfl
 | false=>
  have:x=0:=by simpa using hz
  subst this;obtain⟨need,O⟩:=Qq2 h hml ho hx;have hn:=(AG (Np n o h ho) O rfl).1;rw[Qd,Qd,ZQ h hr ho,O,Qa,Qa];simp only[show((0:Int) != 0)=false from rfl,Qd];rw[Qsn (by have:=hm.1;have:=h.pl;omega) λx hx y hy=>by
   have:=(hm.2 x hx).2;have:=(hn.2 y hy).2;omega]
def Qpr (h:XE n)(hr:RN n)(O:XL n o):UL n o=ES n o:=QlF h hr O
def Qsp (h:XE n)(hr:RN n){c:Nat}(hc:c<=900000)(hm:Kz n c m)(ho:XL n o){O:L_ QBg}(hn:Yf n o=C (O,0)):GB m O true=WI m O:=
 Qpq (by have:=hm.1;have:=h.pl;omega) λx hx y hy=>by
  have:=(hm.2 x hx).2;have:=((AG (Np n o h ho) hn rfl).1.2 y hy).2;omega
def QpP (e:QW)(m:L_ QBg):Qt (λst:Int×L_ QBg=>LH e st.1 st.2) (0,m)=Qt (λst:Int×L_ QBg=>Jm e st.1 st.2) (0,m):=by
 have h:(λst:Int×L_ QBg=>LH e st.1 st.2)=λst=>Jm e st.1 st.2:=by
  funext st;unfold LH Jm Qch Qci;cases decide (st.1<(e.Cancel.length:Int))with
  | false=>rfl
  | true=>
   rw[Qq,Qq];cases idx e.Cancel st.1 with
   | none=>rfl
   | some k=>
    simp only[Qa];cases decide (0<=k)with
    | false=>rfl
    | true=>
     cases decide (k<(st.2.length:Int))with
     | false=>rfl
     | true=>rfl
 rw[h]
def Qq3 {e:QW}{q:L_ QBg}{c:Nat}(hc:e.Cancel.length<=16)(hm:∀b∈m,b.length<=c)(h:Qt (λst:Int×L_ QBg=>Jm e st.1 st.2) (0,m)=C q):q.length=m.length/\∀b∈q,b.length<=c:=by
 have key:Qk (Qt (λst:Int×L_ QBg=>Jm e st.1 st.2) (0,m)) λq=>q.length=m.length/\∀b∈q,b.length<=c:=by
  refine Qk.up e.Cancel.length (λst=>st.1) (λst=>st.2.length=m.length/\∀b∈st.2,b.length<=c) rfl ⟨rfl,hm⟩ (λi st hi hn hJ=>?_);obtain⟨x,l⟩:=st;replace hi:x=(i:Int):=hi;subst hi;obtain⟨j1,j2⟩:l.length=m.length/\∀b∈l,b.length<=c:=hJ;show Qk (Jm e i l) _;unfold Jm DV;refine T1 (λO=>?_) λ_=>T2 (Qv ⟨j1,j2⟩);simp only[QG]at O;have hw:Qm ((i:Int)+1)=((i+1:Nat):Int):=Qr (show i<e.Cancel.length by omega) (by unfold maxLen;omega);refine T0 (T4 (by omega) O) λk _=>?_;refine T1 (λhk=>?_) λ_=>T2 (QV ⟨by omega,hw,j1,j2⟩);simp only[QH,QG]at hk;refine T0 (T4 hk.1 hk.2) λ_ _=>T2 (QV ⟨by omega,hw,by simpa using j1,λb hb=>?_⟩);rcases Tw hb with rfl | hb
  ·simp
  exact j2 b hb
 exact AG key h
def Qsq (h:XE n)(hr:RN n){c:Nat}(hc:c<=900000)(hm:Kz n c m)(ho:XL n o):Sl n m o=Gm n m o:=by
 unfold Sl Gm;rw[Qpr h hr ho];obtain⟨x,hx,hx2⟩:=QgY n o h ho;rw[hx,Qa,Qa];cases hz:(x.2 != 0)with
 | true=>rfl
 | false=>
  obtain⟨⟨g1,_⟩,g2,g3⟩:=hx2 (by simpa using hz);have hpl:=h.pl;have hml:=hm.1;have hmem:(n.Tasks[o.Task.toNat]'(by omega))∈n.Tasks:=Xs _;rw[Qd,Qd,YI (by simp;omega),Qa,Sq m (by omega) λb O=>by have:=(hm.2 b O).2;omega,Qa,So g2 g3,Qa,Qa,My,QpP];cases hq:Qt (λst:Int×L_ QBg=>Jm (n.Tasks[o.Task.toNat]'(by omega)) st.1 st.2) (0,m)with
  | none=>rfl
  | some q=>
   obtain⟨q1,q2⟩:=Qq3 (h.tk _ hmem).2.2.2 (λb O=>(hm.2 b O).2) hq;rw[Qa,Qa];unfold Qcj AB;rw[Qpq (by omega) λa ha b O=>by
    have:=q2 a ha;have:=(g1.2 b O).2;omega]
def QpQ (h:Qpd c):HF c=C c:=by
 have mx:(100000:Nat)<=maxLen:=by decide
 have hM:=h.m;have hi:=h.i;have m1:Qk (Qt (λst=>Bv c st.1 st.2) (0,([]:L_ QBg))) λq=>q=c.M:=by
  refine Qk.up c.M.length (λst:Int×L_ QBg=>st.1) (λst:Int×L_ QBg=>st.2=c.M.take st.1.toNat) rfl rfl (λi st O hn hJ=>?_);obtain⟨x,l⟩:=st;replace O:x=(i:Int):=O;subst O;replace hJ:l=c.M.take i:=hJ;subst hJ;show Qk (Bv c i (c.M.take i)) _;unfold Bv;refine T1 (λhc=>?_) (λhc=>T2 (Qv ?_))
  ·simp only[QG]at hc;have i1:i<c.M.length:=by omega
   have hx:=QN i1;have hb:=h.b _ (Xs i1);rw[QQ,hx,Qa,YI (by simp;omega),Qa,YI (by simp;omega),Qa];refine T2 (QV ⟨i1,Qr i1 (by omega),?_⟩);rw[Qr i1 (by omega)];show c.M.take i++[[]++c.M[i]]=c.M.take (i+1);rw[UU,hx];rfl
  simp only[Xq]at hc;exact UV (by omega)
 have m2:Qk (Qt (λst=>Bw c st.1 st.2) (0,([]:L_ Qg))) λq=>q=c.Items:=by
  refine Qk.up c.Items.length (λst:Int×L_ Qg=>st.1) (λst:Int×L_ Qg=>st.2=c.Items.take st.1.toNat) rfl rfl (λi st O hn hJ=>?_);obtain⟨x,l⟩:=st;replace O:x=(i:Int):=O;subst O;replace hJ:l=c.Items.take i:=hJ;subst hJ;show Qk (Bw c i (c.Items.take i)) _;unfold Bw;refine T1 (λhc=>?_) (λhc=>T2 (Qv ?_))
  ·simp only[QG]at hc;have i1:i<c.Items.length:=by omega
   have hx:=QN i1;have hb:=h.f _ (Xs i1);rw[QQ,hx,Qa,YI (by simp;omega),Qa,YI (by simp;omega),Qa,YI (by simp;omega),Qa,YI (by simp;omega),Qa];refine T2 (QV ⟨i1,Qr i1 (by omega),?_⟩);rw[Qr i1 (by omega)];show c.Items.take i++[c.Items[i]]=c.Items.take (i+1);rw[UU,hx];rfl
  simp only[Xq]at hc;exact UV (by omega)
 obtain⟨q,q1,rfl⟩:=m1;obtain⟨p,p1,rfl⟩:=m2;unfold HF;rw[q1,Qa];unfold SC;rw[p1];rfl
def Qq4 {m:L_ Bag}(h:XE n)(hr:RN n)(hg:IY n m):OF n m=C true:=by
 obtain⟨hm,hl⟩:=hg;have hpl:=h.pl;have hm1:=hm.1;unfold OF;rw[show((m.length:Int) != (n.Places.length:Int))=false by simp;omega,Qd];obtain⟨r,h1,h2⟩:=(Qk.up (body:=λst=>HH m n st) m.length (λst=>st) (λ_=>True) (Q:=λq:Unit⊕Unit=>q=.inr ()) (s0:=(0:Int)) rfl trivial (λi st hi hn hJ=>by
  show Qk (HH m n st) _;unfold HH;refine T1 (λhc=>?_) (λ_=>T2 (Qv rfl));simp only[QG]at hc;have O:i<m.length:=by omega
  have i2:i<n.Places.length:=by omega
  have hb:=hm.2 _ (Xs O);have hbl:=hb.2;rw[hi,QQ,KR O,Qa,Hh (by unfold maxLen;omega),Qa,QQ,KR i2,Qa,Qsk h.k.1 hr.c,YV.2 hb.1];refine T0 (UB n.Colours (n.Places[i]).Colour h.k.1).self λsz hsz=>?_;refine T0 (P:=λr=>r=true) ?_ λx hx=>?_
  ·refine Qk.up (body:=λst:Bool×Int=>HG m i sz st.1 st.2) (m[i]).length (λst=>st.2) (λst=>st.1=true) rfl rfl (λj st hj hn2 hJ=>?_);obtain⟨ok,k⟩:=st;replace hj:k=(j:Int):=hj;replace hJ:ok=true:=hJ;subst hj hJ;show Qk (HG m i sz true j) _;unfold HG;rw[QQ,KR O,Qa];refine T1 (λhc=>?_) (λ_=>T2 (Qv rfl));simp only[QG]at hc;have j1:j<(m[i]).length:=by omega
   unfold Qa4;rw[Qq,QQ,KR O,Qa,QQ,KR j1,Qa,Qa];have hcn:=Eu hb.1.1.nd (Xs j1);have hpos:=hb.1.2 _ (Xs j1);obtain⟨z,hz1,hz2⟩:=hl i _ _ (KR O) (KR i2) _ (by rw[hcn];omega);rw[hsz.1]at hz1;cases hz1;rw[Qi hz2];exact T2 (QV ⟨j1,Qr j1 (by unfold maxLen;omega),rfl⟩)
  subst hx;show Qk (Qa5 _ true) _;exact T2 (QV ⟨O,Qr O (by unfold maxLen;omega),trivial⟩)))
 rw[h1,h2];rfl
def Qsr (h:XE n)(hr:RN n)(O:JF n c):OI n c=C true:=by
 have hL:=O.lens h;have hi:=hL.i;have mx:(1000:Nat)<=maxLen:=by decide
 have h1:=O.n1;have h2:=O.n2;have hlen:=O.len;unfold OI;rw[Qq4 h hr O.g,Qa,QpK (by omega),Qa,O.up,Qi (by omega),Qj (by omega),Qj (by omega),Qj (by omega),Qj (by omega)];simp only[QbC,Jo,QbD,Qd];obtain⟨r,q1,q2⟩:=(Qk.up (body:=λst=>HL c n st) c.Items.length (λst=>st) (λ_=>True) (Q:=λq:Unit⊕Unit=>q=.inr ()) (s0:=(0:Int)) rfl trivial (λi st hi2 hn hJ=>by
  show Qk (HL c n st) _;unfold HL;refine T1 (λhc2=>?_) (λ_=>T2 (Qv rfl));simp only[QG]at hc2;have i1:i<c.Items.length:=by omega
  obtain⟨m1,⟨a,m2⟩,b,m3⟩:=O.f _ (Xs i1);rw[hi2,QQ,KR i1,Qa,ZQ h hr m1,m2,Qa,Qa,Qpr h hr m1,m3,Qa];exact T2 (QV ⟨i1,Qr i1 (by omega),trivial⟩)))
 rw[q1,q2];rfl
def Qq5 {a m:L_ Bag}(ha:QX (QX λ_=>True) a)(hm:QX (QX λ_=>True) m)(hw:DG a m=C true):∀(j:Nat) x y,a[j]? = C x->m[j]? = C y->Rt x/\Rt y/\∀k,QD x k<=QD y k:=by
 unfold DG XC at hw;obtain⟨x,h,hw⟩:=QU hw;cases hw;rcases XU h with⟨_,h⟩|⟨c,h⟩
 ·cases h
 have hl:a.length=m.length:=by simp at c;omega
 have main:Qk (Qt (λst=>QL a m st) 0) λq=>q=.inr ()->∀(j:Nat) x y,a[j]? = C x->m[j]? = C y->Rt x/\Rt y/\∀k,QD x k<=QD y k:=by
  refine Qk.up a.length (λst=>st) (λst=>∀(j:Nat) x y,(j:Int)<st->a[j]? = C x->m[j]? = C y->Rt x/\Rt y/\∀k,QD x k<=QD y k) rfl (λj x y hj=>by omega) (λi st hi hn hJ=>?_);replace hi:st=(i:Int):=hi;subst hi;show Qk (QL a m i) _;unfold QL;refine T1 (λhc=>?_) (λhc=>T2 (Qv λ_ j x y h=>?_))
  ·simp only[QG]at hc;have O:i<a.length:=by omega
   have i2:i<m.length:=by omega
   rw[QQ,KR O,Qa,QQ,KR i2,Qa];obtain⟨r,hr,hr2⟩:=LJ a[i] m[i] (ha.2 _ (Xs O)).1 (hm.2 _ (Xs i2)).1;rw[hr,Qa];refine T1 (λ_=>T2 (Qv λe=>by cases e)) λhb=>T2 (QV ⟨O,Qr O ha.1,λj x y hj h hy=>?_⟩);rw[Qr O ha.1]at hj;by_cases cj:j=i
   ·subst cj;rw[KR O]at h;cases h;rw[KR i2]at hy;cases hy;exact hr2.1 (by simpa using hb)
   exact hJ j x y (by omega) h hy
  simp only[Xq]at hc;exact hJ j x y (by have:=(Xb.1 h).1;omega) h
 obtain⟨q,q1,q2⟩:=main;rw[q1,Qa]at h;rcases q with q | q
 ·cases h
 exact q2 rfl
def Qtt {m:L_ Bag}(h:XE n)(hg:IY n m)(ho:XL n o)(hc:Yl n m o=C 0):∃O t,Yf n o=C (O,0)/\YK m O=C (t,0)/\WJ n m o=C (t,0):=by
 have hm:=hg.1;obtain⟨_,e,he,_,_,_,b,hb,_,ht,_⟩:=VA.1 ((Qct h (hm.len h (by omega)) ho).1 hc);obtain⟨k1,k2,hbn,hbm,_⟩:=Nq h hb;rw[he]at k1;cases k1;have hE:∃env,WM n o.Task o.Vars=C (env,0)/\b.env=env:=by
  unfold Jx at hb;obtain⟨⟨x1,x2⟩,hx,hb⟩:=QU hb;rcases XU hb with⟨c,hb⟩|⟨c,hb⟩
  ·simp only[Option.some.injEq,Prod.mk.injEq]at hb;simp only[hb.1]at c;cases c
  simp only[KJ]at c;subst c;rw[he,Qa]at hb;simp only[Option.some.injEq,Prod.mk.injEq,true_and]at hb;exact⟨x1,hx,by rw[<-hb]⟩
 obtain⟨env,hE,hbe⟩:=hE;unfold XS at ht;obtain⟨⟨O,y⟩,hT,ht⟩:=QU ht;rcases XU ht with⟨c,ht⟩|⟨c,ht⟩
 ·simp only[Option.some.injEq]at ht;simp only[ht]at c;cases c
 simp only[KJ]at c;subst c;obtain⟨w,hw,ht⟩:=QU ht;rcases XU ht with⟨c,ht⟩|⟨c,ht⟩
 ·cases ht
 have c:w=true:=by simpa using c
 subst c;rw[hbm]at hw;rw[hbn,hbe]at hT;have hN:Yf n o=C (O,0):=by
  unfold Yf;rw[hE,Qa,show((0:Int) != 0)=false from rfl,Qd,he,Qa];rw[hT];rfl
 obtain⟨hnd,_⟩:=AG (Np n o h ho) hN rfl;have hW:=Qq5 (hnd.len h (by omega)) (hm.len h (by omega)) hw;obtain⟨⟨t,z⟩,j1,j2,j3⟩:=Qh3 n m O 1024 20 h hm hnd (by omega);have hz:z=0:=j3 λj x y hx hy=>by
  obtain⟨r1,r2,r3⟩:=hW j y x hy hx;have l1:=(QtD hm hx).2.2;have l2:=(QtD hnd hy).2.2;exact Qtd (by omega) r2 r1 r3
 subst hz;exact⟨O,t,hN,j1,Qug hc hN j1⟩
def Qvu (a b:Int):decide (a<=b)=!decide (b<a):=by
 by_cases c:b<a
 ·rw[Qi c,Qj (by omega)];rfl
 rw[Qj c,Qi (by omega)];rfl
def QpR (m:Int×Int×Int)(k:Int):OJ m k=AT m k:=by
 have h:∀m:Int×Int×Int,Bb k m=Gx k m:=λm=>by
  unfold Bb Gx Ru Rv;simp only[Cv,Qa,Qvu];cases decide (m.1<1)<;>cases decide (m.2.1<m.1)<;>cases decide (16<m.2.1)<;>cases decide (m.2.2<1)<;>cases decide (m.2.1<m.2.2)<;>cases decide (k<m.1)<;>cases decide (m.2.1<k)<;>rfl
 unfold OJ AT;rw[h,h]
def Qq6 {b:QZ}(hb:HR b=true):Vc b=MO b/\Sg b=Iy b/\Sh b=Iz b:=by
 obtain⟨h,h2,h3⟩:=Qcv.1 hb;have hr:Jw b=C true:=by rw[PI,Qi h]
 have O:Kr b=C false:=by rw[QeI,Qi h,Qj (by omega),Qj h3];rfl
 unfold RB at h;unfold Vc Sg Sh MO Iy Iz;have s0:DA b 1 0 0=WH b 0:=by
  unfold DA WH WN Fj;simp only[Nr,VB,hr,O,Qa,Jo,Qd];rw[Xj (n:=b.Done+0) (by omega),Xj (n:=b.Failed+0) (by omega),Int.add_zero,Int.add_zero];rfl
 have s1:DA b (-1) 1 0=WH b 1:=by
  unfold DA WH Ei WN;simp only[Nr,VB,hr,O,Qa,Jo,Qd];rw[Xj (n:=b.Failed+0) (by omega),Xj (n:=b.Failed-1) (by omega),Xj (n:=b.Failed-1+1) (by omega),Int.add_zero,Int.sub_add_cancel];rfl
 have s2:DA b (-1) 0 1=WH b 2:=by
  unfold DA WH Ei WN;simp only[Nr,VB,hr,O,Qa,Jo,Qd];rw[Xj (n:=b.Done+0) (by omega),Int.add_zero];rfl
 rw[s0,s1,s2];exact⟨rfl,rfl,rfl⟩
def Qq7 (b:QZ):Si b=Au b:=by
 unfold Si Qcg Au MQ;rw[Nr];rfl
def Qod (h:JF n c):∀x∈c.Items,lens x<=1000:=λx O=>by
 have:=(h.f x O).1;unfold XL at this;unfold lens;omega
def ZR {l:L_ Qg}{id:Int}(h:l.length<=maxLen):Be l id=Kl l id:=by rw[Qly h,QmR h]
def Qq8 (h:JF n c)(id:Int):FR c.Items id=ET c.Items id:=by
 have hl:=h.len;rw[Qlz (Qod h) (by omega) (UT h),Qg1 (λx O=>SJ.of ((Qod h) x O)) (by omega) (UT h)]
def Qnq (O:JF n c){x:Qg}(h:XL n x.Mode):IF c.Items x=EC c.Items x:=by
 have hl:=O.len;have h:lens x<=1000:=by unfold XL at h;unfold lens;omega
 rw[Qr4 (Qod O) h (by omega) (UT O),Qo6 (λx h=>SJ.of ((Qod O) x h)) (SJ.of h) (by omega) (UT O)]
def Qss {L:L_ Qg}{now:Int}(h:L.length<=80):Oh L now=CG L now:=by
 obtain⟨S,O,h2,h3⟩:=Qut (now:=now) h;rw[h3,Qng h O h2]
def Qq9 {m:L_ Bag}(h:XE n)(hr:RN n)(hg:IY n m)(O:XL n o):Sj n m o=Av n m o:=by
 unfold Sj Av;rw[ZQ h hr O];obtain⟨⟨need,e⟩,hN,_⟩:=Np n o h O;rw[hN,Qa,Qa];simp only;cases hz:(e != 0)with
 | true=>rfl
 | false=>
  have:e=0:=by simpa using hz
  subst this;rw[Qd,Qd,Qsp h hr (c:=1024) (by omega) hg.1 O hN]
def Qh7 (h:XE n)(hr:RN n)(hc:JF n c)(k:Xh)(hp:XL n p.Mode)(O:Bool):FT n c p O=(bif O then Kx ⟨n,c,k⟩ p else Yk ⟨n,c,k⟩ p).bind λr=>C (r.1,r.2.now):=by
 obtain⟨⟨M,e⟩,hB,_⟩:=Qni h hc.g hp;obtain⟨⟨M2,e2⟩,hG,_⟩:=Qnh h hc.g hp;have hD:=Qq8 hc p.Id;unfold FT CZ Kx Yk;simp only;rw[Qq9 h hr hc.g hp,Qsq h hr (c:=1024) (by omega) hc.g.1 hp,hD,hB,hG];simp only[Qa];cases ET c.Items p.Id<;>cases O<;>cases e != 0<;>cases e2 != 0<;>rfl
def Fa (c:Qz)(r:Int×Qu×QK):Qz×Qu:=bif r.1 != 0 then(c,⟨r.1,0,[]⟩)else(r.2.2.now,r.2.1)
def Qp6 (h:XE n)(hr:RN n)(hc:JF n c)(k:Xh)(hp:XL n p.Mode)(hi:p.Id=k.Id)(O:Bool):Dl c k n true O p=((bif O then Kx ⟨n,c,k⟩ p else Yk ⟨n,c,k⟩ p).bind λr=>C (r.1,(⟨0,p.Id,[p.Id]⟩:Qu),r.2)).bind λr=>C (Fa c r):=by
 unfold Dl Yx Fa;rw[Jo,Qd,Qh7 h hr hc k hp,hi];cases (bif O then Kx ⟨n,c,k⟩ p else Yk ⟨n,c,k⟩ p)with
 | none=>rfl
 | some r=>
  simp only[Qa];cases r.1 != 0<;>rfl
def Qp7 (hc:JF n c)(k:Xh)(O:∀y∈c.Items,y.Id≠k.Id):∃e z,e≠0/\Jj ⟨n,c,k⟩=C (e,z)/\WC n c k=C (c,⟨e,0,[]⟩):=by
 have hm:=UT hc;have hF:=Qne hm O;have hR:WC n c k=bif (decide (1<=k.Id))&&(decide (k.Id<c.Next))then C (c,⟨12,0,[]⟩)else C (c,⟨3,0,[]⟩):=by
  unfold WC Yx;rw[ZR hm,hF];rfl
 have h:∃z,Jj ⟨n,c,k⟩=bif (decide (0<k.Id))&&(decide (k.Id<c.Next))then C (12,z)else C (3,z):=by
  unfold Jj;simp only;rw[hF];exact⟨_,rfl⟩
 obtain⟨z,h⟩:=h;have e1:decide (1<=k.Id)=decide (0<k.Id):=by
  by_cases c1:0<k.Id
  ·rw[Qi c1,Qi (by omega)]
  rw[Qj c1,Qj (by omega)]
 rw[h,hR,e1];cases decide (0<k.Id)&&decide (k.Id<c.Next)with
 | true=>exact⟨12,z,by omega,rfl,rfl⟩
 | false=>exact⟨3,z,by omega,rfl,rfl⟩
def Qps (hc:JF n c)(k:Xh)(h:¬∀y∈c.Items,y.Id≠k.Id):∃(i:Nat) (y:Qg),Kl c.Items k.Id=C (i:Int)/\c.Items[i]? = C y/\y.Id=k.Id/\XL n y.Mode/\HR y.Batch=true/\Jj ⟨n,c,k⟩=C (0,y):=by
 have hm:=UT hc;obtain⟨x,h⟩:=Classical.not_forall.1 h;obtain⟨h,he⟩:=Classical.not_imp.1 h;obtain⟨i,y,h1,O,h3⟩:=Qcu hm h (Classical.not_not.1 he);have hy:=Xx O;refine⟨i,y,h1,O,h3,(hc.f y hy).1,((FW.1 hc.up).2 y hy).2.2.2,?_⟩;unfold Jj;simp only;rw[h1,Qa,Qi (by omega),Qq,QQ,O];rfl
def Qst (h:XE n)(hr:RN n)(hc:JF n c)(k:Xh)(hd5:k.Do≠5):WC n c k=(KX ⟨n,c,k⟩).bind λr=>C (Fa c r):=by
 have hm:=UT hc;unfold KX;by_cases hno:∀y∈c.Items,y.Id≠k.Id
 ·obtain⟨e,z,h0,h1,h2⟩:=Qp7 hc k hno;rw[h1,h2,Qa,NO,Qj h0];have hz:(e != 0)=true:=by simpa using h0
  unfold Ym Fa;simp only[Qd,hz,Qq,Qa]
 obtain⟨i,y,h1,h2,h3,m1,hg,hf⟩:=Qps hc k hno;obtain⟨s1,s2,s3⟩:=Qq6 hg;obtain⟨e,b,O,hR,_⟩:=Qnk hg ⟨n,c,k⟩;have hcnt:∀f:Int->QZ->O_ (Qz×Qu),(bif k.Do==4 then(MO y.Batch).bind λx=>f x.1 x.2 else bif k.Do==2 then(Iy y.Batch).bind λx=>f x.1 x.2 else(Iz y.Batch).bind λx=>f x.1 x.2)=f e b:=λf=>by
  unfold WO at O;simp only at O;cases h4:(k.Do==4)<;>cases h5:(k.Do==2)<;>simp only[h4,h5,Qq,Qd]at O ⊢<;>obtain⟨q,q1,q2⟩:=QU O<;>rw[q1]<;>cases q2<;>rfl
 unfold WC;rw[ZR hm,h1,hf,Qa,Qa,Qj (by omega),Qd,QQ,h2,Qa,HQ,Qj hd5,Zw,Qq,s1,s2,s3,hcnt λe b=>Uz c k n y e b];show _=((WO ⟨n,c,k⟩ y.Batch).bind λx20=>Ym ⟨n,c,k⟩ x20.1 ⟨y.Id,y.Mode,x20.2,y.Until⟩).bind _;rw[O,Qa];unfold Uz Ym;cases hz:(e != 0)with
 | true=>
  unfold Yx Fa;simp only[Qq,Qa,hz]
 | false=>
  obtain⟨w,hw⟩:∃w,Au b=C w:=by
   unfold Au MQ SX;rw[PI];cases decide (RB b)<;>exact⟨_,rfl⟩
  simp only[Qd];rw[VB,Qq7,hw];cases Kr b with
  | none=>rfl
  | some ov=>
   cases ov with
   | false=>
    show Dl c k n false w ⟨y.Id,y.Mode,b,y.Until⟩=((EC c.Items ⟨y.Id,y.Mode,b,y.Until⟩).bind _).bind _;unfold Dl;rw[Zw,Qq,Qnq hc (x:=⟨y.Id,y.Mode,b,y.Until⟩) m1,<-h3];cases EC c.Items ⟨y.Id,y.Mode,b,y.Until⟩<;>rfl
   | true=>
    show Dl c k n true w ⟨y.Id,y.Mode,b,y.Until⟩=_;rw[Qp6 h hr hc k (p:=⟨y.Id,y.Mode,b,y.Until⟩) m1 h3 w];cases w<;>rfl
def Qn1 (h:XE n)(hr:RN n)(hc:JF n c)(k:Xh)(hd5:k.Do=5):WC n c k=(WP ⟨n,c,k⟩).bind λr=>C (Fa c r):=by
 have hm:=UT hc;unfold WP;by_cases O:∀y∈c.Items,y.Id≠k.Id
 ·obtain⟨e,z,h0,h1,h2⟩:=Qp7 hc k O;have hz:(e != 0)=true:=by simpa using h0
  unfold Fa;rw[h1,h2,Qa];simp only[hz,Qq,Qa]
 obtain⟨i,y,h1,h2,h3,m1,hg,hf⟩:=Qps hc k O;unfold WC;rw[ZR hm,h1,hf,Qa,Qa,Qj (by omega),Qd,QQ,h2,Qa,HQ,Qi hd5,Jo,Qd,Qp6 h hr hc k m1 h3 false];rfl
def Qra (h:XE n)(hr:RN n)(hc:JF n c)(k:Xh)(O:XL n k.Mode)(hR:Yl n c.M k.Mode=C 0->BV n c.M k.Mode 64=KZ n c.M k.Mode 64):OK n c k=(Dq ⟨n,c,k⟩).bind λr=>C (Fa c r):=by
 have hml:=hc.g.1.len h (by decide);obtain⟨x,hx,_⟩:=QgX n c.M k.Mode h hml O;unfold OK Dq Yx;simp only;rw[QeK h hr hml O,hx];simp only[Qa];cases hz:(x != 0)with
 | true=>unfold Fa;simp only[Qq,Qa,hz]
 | false=>
  have:x=0:=by simpa using hz
  subst this;rw[Qd,Qd,hR hx];cases KZ n c.M k.Mode 64 with
  | none=>rfl
  | some q=>
   simp only[Qa];cases q != 1 with
   | true=>rfl
   | false=>
    rw[Qd,Qd];cases idx n.Tasks k.Mode.Task with
    | none=>rfl
    | some t=>
     simp only[Qa];rw[QpR];cases AT t.Many k.Num with
     | none=>rfl
     | some s=>
      simp only[Qa];cases hs:(s.1 != 0)with
      | true=>unfold Fa;simp only[Qq,Qa,hs]
      | false=>
       rw[Qd,Qd];cases decide (64<=(c.Items.length:Int))with
       | true=>rfl
       | false=>
        rw[Qd,Qd];cases c.Next==1099511627776 with
        | true=>rfl
        | false=>
         obtain⟨need,M,hN,hJ,hT⟩:=Qtt h hc.g O hx;rw[Qd,Qd,Qso h hr (c:=1024) (by omega) hc.g.1 O,hT,Qa];have k1:∀l:Qg,l.Id=c.Next->l.Mode=k.Mode->Bd c (M,0) l=(JR ⟨n,c,k⟩ l).bind λr=>C (Fa c r):=λl hi hl=>by
          unfold Bd JR;simp only;rw[hT,Qnq hc (x:=l) (by rw[hl];exact O),hi];cases EC c.Items l<;>rfl
         cases decide (0<t.After)with
         | true=>exact k1 _ rfl rfl
         | false=>exact k1 _ rfl rfl
end Go.Proofs
