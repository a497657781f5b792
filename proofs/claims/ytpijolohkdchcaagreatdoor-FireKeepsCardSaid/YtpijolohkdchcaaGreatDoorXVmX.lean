/- A part of the proof; what it holds is told at each theorem. -/
import Derived.Test.YtpijolohkdchcaaGreatDoorXVmT
set_option linter.unusedVariables false
set_option linter.unusedSimpArgs false
set_option linter.unusedSectionVars false
set_option linter.deprecated false
namespace Go.Vm
open Go Go.RowKit
theorem Qc.toData {P:Program}{f:FuncId}{us:List V}{z:Nat}{rows:List (List V)}(h:Qc P f us [] (QrZ z rows)):Qc P f us [] (fun v _=>v=.sl z rows):=by
 intro S φ w vals hi hG
 refine(h S φ w vals hi hG).mono ?_
 rintro e w' ⟨x,v,hs',φ',rfl,⟨o,rfl,hl⟩,ho⟩
 have hφ:∀o B,φ o≠some B:=fun o B hB=>by obtain⟨ob,h⟩:=(hi.dom o B hB).2.2;cases h
 have hA:∀k,Aft S φ' w w' k→Aft S (fun _=>none) w w' k:=fun k hk=>⟨hk.1,hk.2.1,fun _ _ h=>by cases h⟩
 refine⟨x,.sl z rows,[],fun _=>none,rfl,rfl,ho.os,ho.tape,ho.output,ho.size,ho.kept,fun _ _ _ _ _ h=>(by cases h),fun _ _ h=>(by cases h),fun _ _ _ h=>(by cases h),fun _ _ _ h=>(by cases h),⟨fun _ _ _ h=>(by cases h),fun _ _ _ _ h=>(by cases h)⟩,?_,fun _ _ h=>(by cases h)⟩
 rcases ho.heap o _ hl with⟨B,hB,hrep⟩|⟨hn,z',hz⟩
 ·rcases ho.rep.own_inv with⟨rfl,h0⟩|⟨B',hB',hcap,rfl⟩
  ·have:rows=[]:=List.length_eq_zero_iff.1 h0
   subst this;exact .dat (.sl0 _ _ _)
  ·rw [hB]at hB';cases hB'
   obtain⟨rfl,hrl,hok,cs,E,h1,h2,h3⟩:=hrep
   refine .dat (.sl B.b B.off rows.length B.cap B.z rows (fun j=>cs.getD (B.off+j) undef) ⟨(ho.lt o B B.b hB B.self).1,fun hlt=>?_,fun _ _ h=>by cases h⟩ rfl hcap hok (fun j hj=>?_) (fun i r hi j v hj=>?_))
   ·obtain⟨o',B',h4,_⟩:=(ho.lt o B B.b hB B.self).2 hlt
    exact absurd h4 (hφ _ _)
   ·have hle2:rows.length*B.z≤B.cap*B.z:=Nat.mul_le_mul_right _ hcap
    have:B.off+j<cs.size:=by omega
    simp [World.cell?,h1,Array.getD,this]
   ·obtain⟨y,hy,hd⟩:=h3 i r hi j v hj
    have:cs.getD (B.off+(i*B.z+j)) undef=y:=by simp [Array.getD_eq_getD_getElem?,hy]
    rw [this]
    exact hd.mono fun k hk=>⟨hA k hk,rfl⟩
 ·cases hz
  rcases ho.rep.own_inv with⟨rfl,h0⟩|⟨B',hB',hcap,rfl⟩
  ·exact .dat (.sl0 _ _ _)
  ·rw [hn]at hB';cases hB'
structure Tab where
 ag:List (Nat×Bool)
 sz:List (Nat×Nat)
 fo:List (Nat×List Nat)
 sp:List (Nat×List (Nat×Nat))
 es:List (Nat×(Nat×Nat×Nat))
 ar:List (Nat×(Nat×Nat))
 zv:List (Nat×List V)
 sb:List Nat
 bo:List Nat
 cc:List Nat
 en:List Nat
def foB (P:Program)(t:Nat):List Nat→Nat→Bool
 | [],_=>true
 | off::r,i=>(match Qja P t i with | some k=>Nat.beq k off | none=>false)&&foB P t r (i+1)
def Tab.okB (P:Program)(T:Tab):Bool:=
 T.ag.all (fun p=>aggB P p.1==some p.2)&&T.sz.all (fun p=>Qfy P p.1==some p.2)&&T.fo.all (fun p=>foB P p.1 p.2 0)&&T.sp.all (fun p=>Qm7 P p.1==some p.2) &&
 T.es.all (fun p=>Qax P p.1==some p.2)&&T.ar.all (fun p=>Qmi P p.1==some p.2)&&T.sb.all (strB P)&&T.bo.all (Qqe P)&&T.cc.all (QoY P)&&T.en.all (entB P)
structure QcL (P:Program) (T:Tab):Prop where
 ag:∀{t b},look T.ag t=some b→aggB P t=some b
 sz:∀{t b},look T.sz t=some b→Qfy P t=some b
 fo:∀{t l},look T.fo t=some l→∀{i:Nat} {k:Nat},l[i]? = some k→Qja P t i=some k
 sp:∀{t b},look T.sp t=some b→Qm7 P t=some b
 es:∀{t b},look T.es t=some b→Qax P t=some b
 ar:∀{t b},look T.ar t=some b→Qmi P t=some b
 zv:∀{t b},look T.zv t=some b→Qap P t=some b
 sb:∀{t},memB T.sb t=true→strB P t=true
 bo:∀{t},memB T.bo t=true→Qqe P t=true
 cc:∀{t},memB T.cc t=true→QoY P t=true
 en:∀{t},memB T.en t=true→entB P t=true
theorem Qu0 {P:Program}{t:Nat}:∀{l:List Nat} {j:Nat},foB P t l j=true→∀{i k:Nat},l[i]? = some k→Qja P t (j+i)=some k:=by
 intro l
 induction l with
 | nil=>intro j _ i k h;simp at h
 | cons off r ih=>
  intro j h i k hk
  rw [foB,Bool.and_eq_true]at h
  cases i with
  | zero=>
   simp at hk;subst hk
   have:=h.1
   split at this
   ·rename_i k' hk';rw [Nat.add_zero,hk',Nat.eq_of_beq_eq_true this]
   ·cases this
  | succ i=>simp at hk;have:=ih h.2 hk;rwa [show j+(i+1)=j+1+i by omega]
theorem Tab.ok {P:Program}{T:Tab}(h:T.okB P=true)(hz:∀p∈T.zv,Qap P p.1=some p.2):QcL P T:=by
 simp only [Tab.okB,Bool.and_eq_true,List.all_eq_true,beq_iff_eq]at h
 obtain⟨⟨⟨⟨⟨⟨⟨⟨⟨h1,h2⟩,h3⟩,h4⟩,h5⟩,h6⟩,h7⟩,h8⟩,h9⟩,h10⟩:=h
 exact⟨fun e=>h1 _ (QaH e),fun e=>h2 _ (QaH e),fun e i k hk=>by have:=Qu0 (h3 _ (QaH e)) hk;rwa [Nat.zero_add]at this,fun e=>h4 _ (QaH e),
  fun e=>h5 _ (QaH e),fun e=>h6 _ (QaH e),fun e=>hz _ (QaH e),fun e=>h7 _ (QhT.1 e),fun e=>h8 _ (QhT.1 e),fun e=>h9 _ (QhT.1 e),fun e=>h10 _ (QhT.1 e)⟩
inductive Mode where
 | d
 | n (z:Nat)
 | o (us:List (List V))
inductive Hint where
 | no
 | row (r:List V)
 | ix
 | rows (rs:List (List V))
 | ln (n:Nat)
 | num (r:Int)
 | bd (ms:List (Option Nat))
 | c (g:Bool) (ms:List Mode) (r:V)
 | co (g:Bool) (ms:List Mode) (z:Nat) (rows:List (List V)) (m:Nat)
 | cd (g:Bool) (ms:List Mode) (z:Nat) (rows:List (List V)) (m:Nat)
 | any (v:V) (ob:Option Ob)
structure Rs where
 v:V
 ob:Option Ob
 φ:Option Prop
def Rs.holds (r:Rs):Prop:=match r.φ with
 | none=>True
 | some p=>p
def evs (f:Operand→Option V):List Operand→Option (List V)
 | []=>some []
 | x::r=>match f x with
  | some v=>match evs f r with
   | some vs=>some (v::vs)
   | none=>none
  | none=>none
def evp (f:Operand→Option V):List (Nat×Operand)→Option (List (Nat×V))
 | []=>some []
 | (i,x)::r=>match f x with
  | some v=>match evp f r with
   | some vs=>some ((i,v)::vs)
   | none=>none
  | none=>none
def QsY (hp:Nat→Option Ob)(g:Bool)(m:Mode)(v:V):Option (V×Option Prop):=match m with
 | .d=>bif v.datA then some (v,none)else none
 | .n z=>match v with
  | .lit (.slice none 0 0)=>some (.sl z [],none)
  | _=>none
 | .o us=>match v with
  | .own b n=>match hp b with
   | some (.arr z rs)=>bif g then some (.sl z us,some (n≤rs.length∧rs.take n=us))else none
   | _=>none
  | _=>none
def andO (φ:Option Prop)(p:Prop):Prop:=match φ with
 | none=>p
 | some q=>q∧p
def QmJ (hp:Nat→Option Ob)(g:Bool):List Mode→List V→Option (List V×(Prop→Prop))
 | [],[]=>some ([],id)
 | m::ms,v::vs=>match QsY hp g m v with
  | some (u,φ)=>match QmJ hp g ms vs with
   | some (us,k)=>some (u::us,fun p=>andO φ (k p))
   | none=>none
  | none=>none
 | _,_=>none
def ikB : IntKind→IntKind→Bool
 | .i8,.i8 | .i16,.i16 | .i32,.i32 | .i64,.i64 | .u8,.u8 | .u16,.u16 | .u32,.u32 | .u64,.u64=>true
 | _,_=>false
theorem Qr3 {a b:IntKind}(h:ikB a b=true):a=b:=by cases a<;>cases b<;>first | rfl | cases h
def binV (T:Tab)(op:BinOp)(Tx:TypeId):V→V→Option Rs
 | .i k m,.i k' n=>bif ikB k k' then match op with
  | .quo=>some ⟨.i k (k.wrap (m.tdiv n)),none,some (n≠0)⟩
  | .rem=>some ⟨.i k (m.tmod n),none,some (n≠0)⟩
  | op=>match QsT op k m n with
   | some v=>some ⟨v,none,none⟩
   | none=>none
  else none
 | .b m,.b n=>bif memB T.bo Tx then match op with
  | .eql=>some ⟨.b (m==n),none,none⟩
  | .neq=>some ⟨.b (m != n),none,none⟩
  | _=>none
  else none
 | .s m,.s n=>match op with
  | .eql=>some ⟨.b (QgS m n),none,none⟩
  | .neq=>some ⟨.b (!QgS m n),none,none⟩
  | _=>none
 | _,_=>none
def unV (op:UnOp):V→Option Rs
 | .b t=>match op with
  | .not=>some ⟨.b (!t),none,none⟩
  | _=>none
 | .i k m=>match op with
  | .neg=>some ⟨.i k (k.wrap (0-m)),none,none⟩
  | _=>none
 | _=>none
def Qob (T:Tab)(Tx:TypeId)(cs:List V)(off:Nat)(φ:Option Prop):Option Rs:=
 match look T.ag Tx with
 | some true=>match look T.sz Tx with
  | some n=>bif Nat.ble (off+n) cs.length then some ⟨.agg ((cs.drop off).take n),none,φ⟩else none
  | none=>none
 | some false=>match cs[off]? with
  | some v=>some ⟨v,none,φ⟩
  | none=>none
 | none=>none
def QsZ (T:Tab)(h:Hint)(Tx:TypeId)(hp:Nat→Option Ob):V→Option Rs
 | .loc b i off=>match hp b with
  | some (.var cs)=>match i with
   | 0=>Qob T Tx cs off none
   | _=>none
  | some (.arr _ rs)=>match h with
   | .row r=>Qob T Tx r off (some (rs[i]? = some r))
   | _=>none
  | _=>none
 | .ro cs=>Qob T Tx cs 0 none
 | _=>none
def Qr4 (T:Tab)(Tx:TypeId)(i:Nat):V→Option Rs
 | .loc b k off=>match look T.fo Tx with
  | some l=>match l[i]? with
   | some n=>some ⟨.loc b k (off+n),none,none⟩
   | none=>none
  | none=>none
 | .ro cs=>match look T.fo Tx with
  | some l=>match l[i]? with
   | some n=>some ⟨.ro (cs.drop n),none,none⟩
   | none=>none
  | none=>none
 | _=>none
def Qr5 (T:Tab)(h:Hint)(Tx:TypeId)(hp:Nat→Option Ob):V→V→Option Rs
 | .sl z rows,.i _ j=>match look T.es Tx with
  | some p=>match h with
   | .row r=>bif Nat.beq z p.2.1 then some ⟨.ro r,none,some (0≤j∧rows[j.toNat]? = some r)⟩else none
   | _=>none
  | none=>none
 | .own b n,.i _ j=>match look T.es Tx with
  | some p=>match hp b with
   | some (.arr z _)=>bif Nat.beq z p.2.1 then some ⟨.loc b j.toNat 0,none,some (0≤j∧j<(n:Int))⟩else none
   | _=>none
  | none=>none
 | .loc b i m,.i _ j=>match look T.ar Tx with
  | some p=>bif decide (0≤j)&&decide (j<(p.1:Int))then some ⟨.loc b i (m+j.toNat*p.2),none,none⟩else none
  | none=>none
 | .ro cs,.i _ j=>match look T.ar Tx with
  | some p=>bif decide (0≤j)&&decide (j<(p.1:Int))then some ⟨.ro (cs.drop (j.toNat*p.2)),none,none⟩else none
  | none=>none
 | _,_=>none
def lenV (T:Tab)(h:Hint)(Tx:TypeId):V→Option Rs
 | .sl _ rows=>bif (look T.es Tx).isSome then match h with
  | .ln m=>some ⟨.i .i64 m,none,some (rows.length=m)⟩
  | _=>some ⟨.i .i64 rows.length,none,none⟩
  else none
 | .own _ n=>bif (look T.es Tx).isSome then some ⟨.i .i64 n,none,none⟩else none
 | .lit (.slice none 0 0)=>bif (look T.es Tx).isSome then some ⟨.i .i64 0,none,none⟩else none
 | .s s=>bif memB T.sb Tx then some ⟨.i .i64 s.size,none,none⟩else none
 | _=>none
def mkV (T:Tab)(h:Hint)(Tx d:TypeId):V→V→Option Rs
 | .i _ l,.i _ c=>match look T.es Tx with
  | some p=>match look T.zv p.1 with
   | some zs=>match h with
    | .rows rs=>bif Nat.beq zs.length p.2.1&&!(Nat.beq p.2.1 0)&&zs.all V.one&&Nat.ble p.2.2 32768 then
     some ⟨.own d l.toNat,some (.arr p.2.1 rs),some ((decide (0≤l)&&decide (l≤c)&&decide (c≤4294967296))=true∧List.replicate l.toNat zs=rs)⟩else none
    | _=>none
   | none=>none
  | none=>none
 | _,_=>none
def mmV (mx:Bool):V→V→Option Rs
 | .i k m,.i k' n=>bif ikB k k' then bif mx then some ⟨.i k (Vm.max2 m n),none,none⟩else some ⟨.i k (Vm.min2 m n),none,none⟩else none
 | _,_=>none
def QrR (P:Program)(T:Tab)(h:Hint)(hp:Nat→Option Ob)(d fn:Nat)(vs:List V):Option Rs:=
 bif memB T.en fn then match h with
 | .c g ms r=>match QmJ hp g ms vs with
  | some (us,k)=>bif (!g&&r.datA)||r.scaA then some ⟨r,none,some (k (Qc P fn us [] (Gives r [])))⟩else none
  | none=>none
 | .co g ms z rows m=>match QmJ hp g ms vs with
  | some (us,k)=>some ⟨.own d m,some (.arr z rows),some (k (Qc P fn us [] (Gives (.own 30000 m) [(30000,.arr z rows)])∧rows.length=m∧(g=false∨∀r∈rows,∀v∈r,v.sca=true)))⟩
  | none=>none
 | .cd g ms z rows m=>match QmJ hp g ms vs with
  | some (us,k)=>bif !g then some ⟨.sl z rows,none,some (k (Qc P fn us [] (Gives (.own 30000 m) [(30000,.arr z rows)])∧rows.length=m))⟩else none
  | none=>none
 | _=>none
 else none
def ev1 (P:Program)(C:Ctx)(T:Tab)(h:Hint)(o:Oper)(d:Nat)(f:Operand→Option V)(hp:Nat→Option Ob):Option Rs:=
 match h with
 | .any v ob=>some ⟨v,ob,some (∀σ:St,(∀x u,f x=some u→σ.opd x=some u)→(∀b u,hp b=some u→look σ.hp b=some u)→(ob.isSome=true→look σ.hp d=none)→Stp P C o σ (σ.addF ⟨d,v,ob⟩))⟩
 | h=>match o.op with
  | .move x=>match f x with
   | some v=>some ⟨v,none,none⟩
   | none=>none
  | .assign x=>match f x with
   | some v=>some ⟨v,none,none⟩
   | none=>none
  | .pick c a b=>match f c with
   | some (.b true)=>match f a with
    | some v=>some ⟨v,none,none⟩
    | none=>none
   | some (.b false)=>match f b with
    | some v=>some ⟨v,none,none⟩
    | none=>none
   | _=>none
  | .binOp op Tx x y _=>match f x with
   | some v=>match f y with
    | some u=>binV T op Tx v u
    | none=>none
   | none=>none
  | .unOp op _ x=>match f x with
   | some v=>unV op v
   | none=>none
  | .alloc Tx=>match look T.zv Tx with
   | some zs=>some ⟨.loc d 0 0,some (.var zs),none⟩
   | none=>none
  | .box _ x=>match f x with
   | some (.agg cs)=>some ⟨.loc d 0 0,some (.var cs),none⟩
   | some v=>bif v.one then some ⟨.loc d 0 0,some (.var [v]),none⟩else none
   | none=>none
  | .load Tx x=>match f x with
   | some v=>QsZ T h Tx hp v
   | none=>none
  | .fieldAddr Tx x i=>match f x with
   | some v=>Qr4 T Tx i v
   | none=>none
  | .indexAddr Tx x y=>match f x with
   | some v=>match f y with
    | some u=>Qr5 T h Tx hp v u
    | none=>none
   | none=>none
  | .build Tx parts=>match evp f parts.toList with
   | some qs=>match look T.zv Tx with
    | some zs=>bif qs.all (fun q=>q.2.isV)then match look T.sp Tx with
      | some pl=>match Qel (pl[·]?) zs qs with
       | some vs=>some ⟨.agg vs,none,none⟩
       | none=>none
      | none=>match look T.ar Tx with
       | some p=>match Qel (fun i=>some (i*p.2,p.2)) zs qs with
        | some vs=>some ⟨.agg vs,none,none⟩
        | none=>none
       | none=>none
     else none
    | none=>none
   | none=>none
  | .buildSlice Tx n parts=>match evp f parts.toList with
   | some qs=>match look T.es Tx with
    | some p=>match look T.zv p.1 with
     | some zs=>bif qs.all (fun q=>q.2.isV)&&Nat.beq zs.length p.2.1&&!(Nat.beq p.2.1 0)&&Nat.ble (n*p.2.1) 16777216 then
      match Qel (fun i=>some (i*p.2.1,p.2.1)) ((List.range (n*p.2.1)).map fun k=>zs.getD (k % p.2.1) .J) qs with
      | some vs=>match h with
       | .bd ms=>bif (denL ms vs).all V.one&&(denL ms vs).all V.dat then some ⟨.sl p.2.1 (Qg7 p.2.1 n (denL ms vs)),none,none⟩else none
       | _=>bif vs.all V.one&&vs.all V.dat then some ⟨.own d n,some (.arr p.2.1 (Qg7 p.2.1 n vs)),none⟩else none
      | none=>none
      else none
     | none=>none
    | none=>none
   | none=>none
  | .extract x i=>match f x with
   | some (.tup vs)=>match vs[i]? with
    | some v=>some ⟨v,none,none⟩
    | none=>none
   | _=>none
  | .nilCheck x=>match f x with
   | some (.loc b i k)=>some ⟨.loc b i k,none,none⟩
   | _=>none
  | .makeInterface Tx x=>match f x with
   | some v=>bif memB T.cc Tx then some ⟨.ifc Tx v,none,none⟩else none
   | none=>none
  | .typeAssert x _ Tx false=>match f x with
   | some (.ifc t v)=>bif Nat.beq t Tx&&memB T.cc Tx then some ⟨v,none,none⟩else none
   | _=>none
  | .makeFunc fn first caps=>match evs f first.toList with
   | some vs=>match evs f caps.toList with
    | some us=>some ⟨.clo fn vs us,none,none⟩
    | none=>none
   | none=>none
  | .index Tx x y=>match f x with
   | some (.s s)=>match f y with
    | some (.i _ j)=>match h with
     | .num r=>bif memB T.sb Tx then some ⟨.i .u8 r,none,some (sidx s j=some r)⟩else none
     | _=>none
    | _=>none
   | _=>none
  | .makeSlice Tx x y=>match f x with
   | some v=>match f y with
    | some u=>mkV T h Tx d v u
    | none=>none
   | none=>none
  | .makeMap _ none=>some ⟨.map d,some (.map []),none⟩
  | .call c=>match c.callee with
   | .builtin .max=>match c.args.toList with
    | [x,y]=>match f x with
     | some v=>match f y with
      | some u=>mmV true v u
      | none=>none
     | none=>none
    | _=>none
   | .builtin .min=>match c.args.toList with
    | [x,y]=>match f x with
     | some v=>match f y with
      | some u=>mmV false v u
      | none=>none
     | none=>none
    | _=>none
   | .builtin .len=>match c.args.toList with
    | [x]=>match c.argTypes.toList with
     | [Tx]=>match f x with
      | some v=>lenV T h Tx v
      | none=>none
     | _=>none
    | _=>none
   | .value x=>match f x with
    | some (.clo (.func fn) fs cs)=>match evs f c.args.toList with
     | some vs=>QrR P T h hp d fn (fs++(vs++cs))
     | none=>none
    | _=>none
   | _=>none
  | _=>none
section
variable {P:Program}{C:Ctx}{T:Tab}{o:Oper}{d:Nat}{f:Operand→Option V}{hp:Nat→Option Ob}{σ:St}
theorem QeJ (h1:∀x u,f x=some u→σ.opd x=some u):∀{l:List Operand} {vs:List V},evs f l=some vs→σ.opsV l=some vs:=by
 intro l
 induction l with
 | nil=>intro vs h;exact h
 | cons x l ih=>
  intro vs h
  rw [evs]at h
  split at h
  ·rename_i v hv
   split at h
   ·rename_i us hus
    cases h
    simp only [St.opsV,h1 _ _ hv,ih hus]
   ·cases h
  ·cases h
theorem QeK (h1:∀x u,f x=some u→σ.opd x=some u):∀{l:List (Nat×Operand)} {vs:List (Nat×V)},evp f l=some vs→σ.opds l=some vs:=by
 intro l
 induction l with
 | nil=>intro vs h;exact h
 | cons x l ih=>
  intro vs h
  obtain⟨i,x⟩:=x
  rw [evp]at h
  split at h
  ·rename_i v hv
   split at h
   ·rename_i us hus
    cases h
    simp only [St.opds,h1 _ _ hv,ih hus]
   ·cases h
  ·cases h
theorem bifS {α:Type _}{c:Bool}{x:Option α}{r:α}(h:(bif c then x else none)=some r):c=true∧x=some r:=by
 cases c with
 | true=>exact⟨rfl,h⟩
 | false=>cases h
theorem Qpz (h2:∀b u,hp b=some u→look σ.hp b=some u){g:Bool}{m:Mode}{v u:V}{φ:Option Prop}(h:QsY hp g m v=some (u,φ))(hφ:(match φ with | none=>True | some p=>p)):View σ.hp g v u:=by
 unfold QsY at h
 cases m with
 | d=>obtain⟨hd,h⟩:=bifS h;cases h;exact .dat _ hd
 | n z=>
  dsimp only at h
  split at h
  ·cases h;exact .nil _
  ·cases h
 | o us=>
  dsimp only at h
  split at h
  ·dsimp only at h
   split at h
   ·rename_i z rs hb
    obtain⟨hg,h⟩:=bifS h;subst hg;cases h;exact .own _ _ _ _ _ rfl (h2 _ _ hb) hφ.1 hφ.2
   ·cases h
  ·cases h
theorem QlA (h2:∀b u,hp b=some u→look σ.hp b=some u){g:Bool}:∀{ms:List Mode} {vs us:List V} {k:Prop→Prop},QmJ hp g ms vs=some (us,k)→∀{p:Prop},k p→Qln σ.hp g vs us∧p:=by
 intro ms
 induction ms with
 | nil=>
  intro vs us k h p hk
  cases vs with
  | nil=>cases h;exact⟨.nil,hk⟩
  | cons=>cases h
 | cons m ms ih=>
  intro vs us k h p hk
  cases vs with
  | nil=>cases h
  | cons v vs=>
   rw [QmJ]at h
   split at h
   ·rename_i u φ hu
    split at h
    ·rename_i us' k' hus
     cases h
     cases φ with
     | none=>obtain⟨a,b⟩:=ih hus hk;exact⟨.cons (Qpz h2 hu trivial) a,b⟩
     | some q=>obtain⟨a,b⟩:=ih hus hk.2;exact⟨.cons (Qpz h2 hu hk.1) a,b⟩
    ·cases h
   ·cases h
theorem Qne {Tx:TypeId}{cs:List V}{off:Nat}{φ:Option Prop}{r:Rs}(ok:QcL P T)(h:Qob T Tx cs off φ=some r):
  r.ob=none∧r.φ=φ∧((aggB P Tx=some true∧∃n,Qfy P Tx=some n∧Nat.ble (off+n) cs.length=true∧r.v=.agg ((cs.drop off).take n))∨(aggB P Tx=some false∧cs[off]? = some r.v)):=by
 unfold Qob at h
 split at h
 ·rename_i hg
  split at h
  ·rename_i n hn
   obtain⟨h1,h⟩:=bifS h
   cases h
   exact⟨rfl,rfl,.inl ⟨ok.ag hg,n,ok.sz hn,h1,rfl⟩⟩
  ·cases h
 ·rename_i hg
  split at h
  ·rename_i v hv
   cases h
   exact⟨rfl,rfl,.inr ⟨ok.ag hg,hv⟩⟩
  ·cases h
 ·cases h
def Adds (P:Program)(C:Ctx)(o:Oper)(d:Nat)(r:Rs)(σ:St):Prop:=Stp P C o σ (σ.addF ⟨d,r.v,r.ob⟩)
theorem Adds.put {r:Rs}(ho:r.ob=none)(h:Stp P C o σ (σ.put d r.v)):Adds P C o d r σ:=by
 obtain⟨v,ob,φ⟩:=r
 cases ho
 exact h
theorem QsA {h:Hint}{Tx:TypeId}{x:Operand}{v:V}{r:Rs}(ok:QcL P T)(ho:o.op=.load Tx x)(hd:o.dst=some d)(hn:Nat.ble (d+1) C.n=true)(hx:σ.opd x=some v)
  (h2:∀b u,hp b=some u→look σ.hp b=some u) (e:QsZ T h Tx hp v=some r) (hφ:r.holds):Adds P C o d r σ:=by
 unfold QsZ at e
 split at e
 ·rename_i b i off
  split at e
  ·rename_i cs hb
   split at e
   ·obtain⟨e1,e2,⟨e3,n,e4,e5,e6⟩|⟨e3,e4⟩⟩:=Qne ok e
    ·refine Adds.put e1 ?_;rw [e6];exact Stp.loadAL ho hd hn hx (h2 _ _ hb) e3 e4 e5 rfl
    ·exact Adds.put e1 (Stp.load1L ho hd hn hx (h2 _ _ hb) e3 e4)
   ·cases e
  ·rename_i z rs hb
   split at e
   ·rename_i r'
    obtain⟨e1,e2,⟨e3,n,e4,e5,e6⟩|⟨e3,e4⟩⟩:=Qne ok e
    ·rw [Rs.holds,e2]at hφ;refine Adds.put e1 ?_;rw [e6];exact Stp.loadAA ho hd hn hx (h2 _ _ hb) e3 e4 hφ e5 rfl
    ·rw [Rs.holds,e2]at hφ;exact Adds.put e1 (Stp.load1A ho hd hn hx (h2 _ _ hb) e3 hφ e4)
   ·cases e
  ·cases e
 ·rename_i cs
  obtain⟨e1,e2,⟨e3,n,e4,e5,e6⟩|⟨e3,e4⟩⟩:=Qne ok e
  ·refine Adds.put e1 ?_;rw [e6];rw [Nat.zero_add]at e5;exact Stp.loadAR ho hd hn hx e3 e4 e5 rfl
  ·exact Adds.put e1 (Stp.load1R ho hd hn hx e3 e4)
 ·cases e
theorem Qs0 {op:BinOp}{Tx Ty:TypeId}{x y:Operand}{v u:V}{r:Rs}(ok:QcL P T)(ho:o.op=.binOp op Tx x y Ty)(hd:o.dst=some d)(hn:Nat.ble (d+1) C.n=true)(hx:σ.opd x=some v)(hy:σ.opd y=some u)
  (e:binV T op Tx v u=some r) (hφ:r.holds):Adds P C o d r σ:=by
 unfold binV at e
 split at e
 ·rename_i k m k' n
  replace e:=bifS e;obtain⟨e1,e⟩:=e
  have:=Qr3 e1;subst this
  split at e
  ·cases e;exact Adds.put rfl (Stp.divi ho hd hn hx hy hφ (.inl ⟨rfl,rfl⟩))
  ·cases e;exact Adds.put rfl (Stp.divi ho hd hn hx hy hφ (.inr ⟨rfl,rfl⟩))
  ·split at e
   ·rename_i w hw;cases e;exact Adds.put rfl (Stp.bin ho hd hn hx hy hw)
   ·cases e
 ·replace e:=bifS e;obtain⟨e1,e⟩:=e
  split at e
  ·cases e;exact Adds.put rfl (Stp.eqB ho hd hn hx hy (ok.bo e1) (.inl ⟨rfl,rfl⟩))
  ·cases e;exact Adds.put rfl (Stp.eqB ho hd hn hx hy (ok.bo e1) (.inr ⟨rfl,rfl⟩))
  ·cases e
 ·split at e
  ·cases e;exact Adds.put rfl (Stp.eqS ho hd hn hx hy (.inl ⟨rfl,rfl⟩))
  ·cases e;exact Adds.put rfl (Stp.eqS ho hd hn hx hy (.inr ⟨rfl,rfl⟩))
  ·cases e
 ·cases e
theorem Qr6 {Tx:TypeId}{i:Nat}{x:Operand}{v:V}{r:Rs}(ok:QcL P T)(ho:o.op=.fieldAddr Tx x i)(hd:o.dst=some d)(hn:Nat.ble (d+1) C.n=true)(hx:σ.opd x=some v)
  (e:Qr4 T Tx i v=some r):Adds P C o d r σ:=by
 unfold Qr4 at e
 split at e
 ·split at e
  ·rename_i l hl
   split at e
   ·rename_i n hn';cases e;exact Adds.put rfl (Stp.fieldL ho hd hn hx (ok.fo hl hn'))
   ·cases e
  ·cases e
 ·split at e
  ·rename_i l hl
   split at e
   ·rename_i n hn';cases e;exact Adds.put rfl (Stp.fieldR ho hd hn hx (ok.fo hl hn') rfl)
   ·cases e
  ·cases e
 ·cases e
theorem Qr7 {h:Hint}{Tx:TypeId}{x y:Operand}{v u:V}{r:Rs}(ok:QcL P T)(ho:o.op=.indexAddr Tx x y)(hd:o.dst=some d)(hn:Nat.ble (d+1) C.n=true)(hx:σ.opd x=some v)(hy:σ.opd y=some u)
  (h2:∀b u,hp b=some u→look σ.hp b=some u) (e:Qr5 T h Tx hp v u=some r) (hφ:r.holds):Adds P C o d r σ:=by
 unfold Qr5 at e
 split at e
 ·split at e
  ·rename_i p hp'
   split at e
   ·replace e:=bifS e;obtain⟨e1,e⟩:=e
    obtain⟨pe,pz,pb⟩:=p
    have:=Nat.eq_of_beq_eq_true e1;dsimp only at this;subst this
    cases e;exact Adds.put rfl (Stp.idxS ho hd hn hx hy (ok.es hp') hφ.1 hφ.2)
   ·cases e
  ·cases e
 ·split at e
  ·rename_i p hp'
   split at e
   ·rename_i z rs hb
    replace e:=bifS e;obtain⟨e1,e⟩:=e
    obtain⟨pe,pz,pb⟩:=p
    have:=Nat.eq_of_beq_eq_true e1;dsimp only at this;subst this
    cases e;exact Adds.put rfl (Stp.idxO ho hd hn hx hy (ok.es hp') (h2 _ _ hb) hφ.1 hφ.2)
   ·cases e
  ·cases e
 ·split at e
  ·rename_i p hp'
   replace e:=bifS e;obtain⟨e1,e⟩:=e
   rw [Bool.and_eq_true,decide_eq_true_eq,decide_eq_true_eq]at e1
   cases e;exact Adds.put rfl (Stp.idxAL ho hd hn hx hy (ok.ar hp') e1.1 e1.2 rfl)
  ·cases e
 ·split at e
  ·rename_i p hp'
   replace e:=bifS e;obtain⟨e1,e⟩:=e
   rw [Bool.and_eq_true,decide_eq_true_eq,decide_eq_true_eq]at e1
   cases e;exact Adds.put rfl (Stp.idxAR ho hd hn hx hy (ok.ar hp') e1.1 e1.2 rfl)
  ·cases e
 ·cases e
theorem Qs1 {h:Hint}{Tx:TypeId}{x:Operand}{v:V}{r:Rs}(ok:QcL P T)(ho:o.op=.call { callee:=.builtin .len,args:=#[x],argTypes:=#[Tx] })(hd:o.dst=some d)(hn:Nat.ble (d+1) C.n=true)(hx:σ.opd x=some v)
  (e:lenV T h Tx v=some r) (hφ:r.holds):Adds P C o d r σ:=by
 have es:∀{t:Nat},(look T.es t).isSome=true→∃p,Qax P t=some p:=fun {t} h=>by
  cases hl:look T.es t with
  | none=>rw [hl]at h;cases h
  | some p=>exact⟨p,ok.es hl⟩
 unfold lenV at e
 split at e
 ·replace e:=bifS e;obtain⟨e1,e⟩:=e;obtain⟨p,hp'⟩:=es e1
  split at e
  ·cases e;exact Adds.put rfl (Stp.lenS' ho hd hn hx hp' hφ)
  ·cases e;exact Adds.put rfl (Stp.lenS ho hd hn hx hp')
 ·replace e:=bifS e;obtain⟨e1,e⟩:=e;obtain⟨p,hp'⟩:=es e1;cases e;exact Adds.put rfl (Stp.lenO ho hd hn hx hp')
 ·replace e:=bifS e;obtain⟨e1,e⟩:=e;obtain⟨p,hp'⟩:=es e1;cases e;exact Adds.put rfl (Stp.lenN ho hd hn hx hp')
 ·replace e:=bifS e;obtain⟨e1,e⟩:=e;cases e;exact Adds.put rfl (Stp.lenStr ho hd hn hx (ok.sb e1))
 ·cases e
theorem Qrr {mx:Bool}{x y:Operand}{v u:V}{ts:Array TypeId}{r:Rs}(ho:o.op=.call { callee:=.builtin (if mx then .max else .min),args:=#[x,y],argTypes:=ts })(hd:o.dst=some d)(hn:Nat.ble (d+1) C.n=true)(hx:σ.opd x=some v)(hy:σ.opd y=some u)
  (e:mmV mx v u=some r):Adds P C o d r σ:=by
 unfold mmV at e
 split at e
 ·replace e:=bifS e;obtain⟨e1,e⟩:=e
  have:=Qr3 e1;subst this
  cases mx with
  | true=>cases e;exact Adds.put rfl (Stp.max2 ho hd hn hx hy)
  | false=>cases e;exact Adds.put rfl (Stp.min2 ho hd hn hx hy)
 ·cases e
theorem QtC {h:Hint}{Tx:TypeId}{x y:Operand}{v u:V}{r:Rs}(ok:QcL P T)(ho:o.op=.makeSlice Tx x y)(hd:o.dst=some d)(hn:Nat.ble (d+1) C.n=true)(hx:σ.opd x=some v)(hy:σ.opd y=some u)
  (e:mkV T h Tx d v u=some r) (hφ:r.holds) (hf:r.ob.isSome=true→look σ.hp d=none):Adds P C o d r σ:=by
 unfold mkV at e
 split at e
 ·split at e
  ·rename_i p hp'
   split at e
   ·rename_i zs hz
    split at e
    ·replace e:=bifS e;obtain⟨e1,e⟩:=e
     simp only [Bool.and_eq_true,Bool.not_eq_true']at e1
     obtain⟨⟨⟨a1,a2⟩,a3⟩,a4⟩:=e1
     cases e
     exact Stp.make' ho hd hn hx hy (ok.es hp') (ok.zv hz) (Nat.eq_of_beq_eq_true a1) (fun h0=>by rw [h0]at a2;cases a2) a3 hφ.1 a4 (hf rfl) hφ.2
    ·cases e
   ·cases e
  ·cases e
 ·cases e
theorem Gives.own {fn:Nat}{us:List V}{z m:Nat}{rows:List (List V)}(h:Qc P fn us [] (Gives (.own 30000 m) [(30000,.arr z rows)]))(hm:rows.length=m):Qc P fn us [] (QrZ z rows):=
 h.mono fun v hs ⟨a,b⟩=>⟨30000,by rw [a,hm],b _ _ rfl⟩
theorem QsB {h:Hint}{fn:Nat}{vs:List V}{r:Rs}(ok:QcL P T)(hE:Qa2 P C o σ fn vs)(hd:o.dst=some d)(hn:Nat.ble (d+1) C.n=true)(hpg:C.pg P)
  (h2:∀b u,hp b=some u→look σ.hp b=some u) (e:QrR P T h hp d fn vs=some r) (hφ:r.holds) (hf:r.ob.isSome=true→look σ.hp d=none):Adds P C o d r σ:=by
 unfold QrR at e
 replace e:=bifS e;obtain⟨e1,e⟩:=e
 split at e
 ·split at e
  ·rename_i us k hv
   replace e:=bifS e;obtain⟨e2,e⟩:=e
   cases e
   obtain⟨a1,a2⟩:=QlA h2 hv hφ
   refine Adds.put rfl (Stp.callE hE hd hn hpg a1 (a2.mono fun _ _ h=>h.1) ?_)
   rw [Bool.or_eq_true,Bool.and_eq_true]at e2
   exact e2.imp (fun h=>⟨by simpa using h.1,h.2⟩) id
  ·cases e
 ·split at e
  ·rename_i us k hv
   cases e
   obtain⟨a1,a2,a3,a4⟩:=QlA h2 hv hφ
   exact Stp.callOE hE hd hn hpg a1 (Gives.own a2 a3) a4 (hf rfl) a3
  ·cases e
 ·split at e
  ·rename_i us k hv
   replace e:=bifS e;obtain⟨e2,e⟩:=e
   cases e
   obtain⟨a1,a2,a3⟩:=QlA h2 hv hφ
   exact Adds.put rfl (Stp.callE hE hd hn hpg a1 (Gives.own a2 a3).toData (.inl ⟨by simpa using e2,rfl⟩))
  ·cases e
 ·cases e
theorem Qoc {h:Hint}{r:Rs}(ok:QcL P T)(hd:o.dst=some d)(hn:Nat.ble (d+1) C.n=true)(hpg:C.pg P)(h1:∀x u,f x=some u→σ.opd x=some u)(h2:∀b u,hp b=some u→look σ.hp b=some u)
  (e:ev1 P C T h o d f hp=some r) (hφ:r.holds) (hf:r.ob.isSome=true→look σ.hp d=none):Adds P C o d r σ:=by
 unfold ev1 at e
 split at e
 ·cases e;exact hφ σ h1 h2 hf
 ·split at e
  ·rename_i x ho
   split at e
   ·rename_i v hv;cases e;exact Adds.put rfl (Stp.move ho hd hn (h1 _ _ hv))
   ·cases e
  ·rename_i x ho
   split at e
   ·rename_i v hv;cases e;exact Adds.put rfl (Stp.assign ho hd hn (h1 _ _ hv))
   ·cases e
  ·rename_i c a b ho
   split at e
   ·rename_i hc
    split at e
    ·rename_i v hv;cases e;exact Adds.put rfl (Stp.pickT ho hd hn (h1 _ _ hc) rfl (h1 _ _ hv))
    ·cases e
   ·rename_i hc
    split at e
    ·rename_i v hv;cases e;exact Adds.put rfl (Stp.pickF ho hd hn (h1 _ _ hc) rfl (h1 _ _ hv))
    ·cases e
   ·cases e
  ·rename_i op Tx x y Ty ho
   split at e
   ·rename_i v hv
    split at e
    ·rename_i u hu;exact Qs0 ok ho hd hn (h1 _ _ hv) (h1 _ _ hu) e hφ
    ·cases e
   ·cases e
  ·rename_i op Tx x ho
   split at e
   ·rename_i v hv
    unfold unV at e
    split at e
    ·split at e
     ·cases e;exact Adds.put rfl (Stp.not ho hd hn (h1 _ _ hv))
     ·cases e
    ·split at e
     ·cases e;exact Adds.put rfl (Stp.neg ho hd hn (h1 _ _ hv))
     ·cases e
    ·cases e
   ·cases e
  ·rename_i Tx ho
   split at e
   ·rename_i zs hz;cases e;exact Stp.alloc ho hd hn (ok.zv hz) (hf rfl)
   ·cases e
  ·rename_i Tx x ho
   split at e
   ·rename_i cs hv;cases e;exact Stp.box ho hd hn (h1 _ _ hv) (.inr ⟨_,rfl⟩) (hf rfl)
   ·rename_i v hne hv
    replace e:=bifS e;obtain⟨e1,e⟩:=e
    cases e
    have hc:v.cells=[v]:=by cases v<;>first | rfl | exact absurd rfl (hne _)
    have:=Stp.box (P:=P) ho hd hn (h1 _ _ hv) (.inl e1) (hf rfl)
    rw [hc]at this;exact this
   ·cases e
  ·rename_i Tx x ho
   split at e
   ·rename_i v hv;exact QsA ok ho hd hn (h1 _ _ hv) h2 e hφ
   ·cases e
  ·rename_i Tx x i ho
   split at e
   ·rename_i v hv;exact Qr6 ok ho hd hn (h1 _ _ hv) e
   ·cases e
  ·rename_i Tx x y ho
   split at e
   ·rename_i v hv
    split at e
    ·rename_i u hu;exact Qr7 ok ho hd hn (h1 _ _ hv) (h1 _ _ hu) h2 e hφ
    ·cases e
   ·cases e
  ·rename_i Tx parts ho
   split at e
   ·rename_i qs hq
    split at e
    ·rename_i zs hz
     replace e:=bifS e;obtain⟨e1,e⟩:=e
     split at e
     ·rename_i pl hpl
      split at e
      ·rename_i vs hvs;cases e;exact Adds.put rfl (Stp.build ho hd hn (ok.zv hz) (ok.sp hpl) (QeK h1 hq) e1 hvs)
      ·cases e
     ·split at e
      ·rename_i p hp'
       split at e
       ·rename_i vs hvs;cases e;exact Adds.put rfl (Stp.buildA ho hd hn (ok.zv hz) (ok.ar hp') (QeK h1 hq) e1 hvs)
       ·cases e
      ·cases e
    ·cases e
   ·cases e
  ·rename_i Tx n parts ho
   split at e
   ·rename_i qs hq
    split at e
    ·rename_i p hp'
     split at e
     ·rename_i zs hz
      replace e:=bifS e;obtain⟨e1,e⟩:=e
      split at e
      ·rename_i vs hvs
       simp only [Bool.and_eq_true,Bool.not_eq_true']at e1
       obtain⟨⟨⟨e3,e4⟩,e5⟩,e6⟩:=e1
       have e4:=Nat.eq_of_beq_eq_true e4
       split at e
       ·replace e:=bifS e;obtain⟨e2,e⟩:=e
        cases e
        rw [Bool.and_eq_true]at e2
        exact Adds.put rfl (Stp.buildSliceD _ ho hd hn (ok.es hp') (ok.zv hz) e4 (fun h0=>by rw [h0]at e5;cases e5) (Nat.le_of_ble_eq_true e6) (QeK h1 hq) e3 hvs e2.1 e2.2 rfl)
       replace e:=bifS e;obtain⟨e2,e⟩:=e
       cases e
       rw [Bool.and_eq_true]at e2
       exact Stp.buildSlice ho hd hn (ok.es hp') (ok.zv hz) e4 (fun h0=>by rw [h0]at e5;cases e5) (Nat.le_of_ble_eq_true e6) (QeK h1 hq) e3 hvs e2.1 e2.2 rfl (hf rfl)
      ·cases e
     ·cases e
    ·cases e
   ·cases e
  ·rename_i x i ho
   split at e
   ·rename_i vs hv
    split at e
    ·rename_i v hv';cases e;exact Adds.put rfl (Stp.extract ho hd hn (h1 _ _ hv) hv')
    ·cases e
   ·cases e
  ·rename_i x ho
   split at e
   ·rename_i hv;cases e;exact Adds.put rfl (Stp.nilCheckL ho hd hn (h1 _ _ hv))
   ·cases e
  ·rename_i Tx x ho
   split at e
   ·rename_i v hv
    replace e:=bifS e;obtain⟨e1,e⟩:=e
    cases e;exact Adds.put rfl (Stp.makeInterface ho hd hn (h1 _ _ hv) (ok.cc e1))
   ·cases e
  ·rename_i x S Tx ho
   split at e
   ·rename_i t v hv
    replace e:=bifS e;obtain⟨e1,e⟩:=e
    rw [Bool.and_eq_true]at e1
    have:=Nat.eq_of_beq_eq_true e1.1;subst this
    cases e;exact Adds.put rfl (Stp.typeAssert ho hd hn (h1 _ _ hv) (ok.cc e1.2))
   ·cases e
  ·rename_i fn first caps ho
   split at e
   ·rename_i vs hv
    split at e
    ·rename_i us hu;cases e;exact Adds.put rfl (Stp.makeFunc ho hd hn (QeJ h1 hv) (QeJ h1 hu))
    ·cases e
   ·cases e
  ·rename_i Tx x y ho
   split at e
   ·rename_i s hs
    split at e
    ·rename_i k j hj
     split at e
     ·replace e:=bifS e;obtain⟨e1,e⟩:=e
      cases e;exact Adds.put rfl (Stp.idxStr' ho hd hn (h1 _ _ hs) (h1 _ _ hj) (ok.sb e1) hφ)
     ·cases e
    ·cases e
   ·cases e
  ·rename_i Tx x y ho
   split at e
   ·rename_i v hv
    split at e
    ·rename_i u hu;exact QtC ok ho hd hn (h1 _ _ hv) (h1 _ _ hu) e hφ hf
    ·cases e
   ·cases e
  ·rename_i ho;cases e;exact Stp.makeMap ho hd hn (hf rfl)
  ·rename_i c ho
   obtain⟨cl,as,ts⟩:=c
   split at e
   ·rename_i hc
    dsimp only at hc e;subst hc
    split at e
    ·rename_i x y hxy
     split at e
     ·rename_i v hv
      split at e
      ·rename_i u hu
       have ea:as=#[x,y]:=by rw [←Array.toArray_toList (xs:=as),hxy]
       subst ea
       exact Qrr (mx:=true) ho hd hn (h1 _ _ hv) (h1 _ _ hu) e
      ·cases e
     ·cases e
    ·cases e
   ·rename_i hc
    dsimp only at hc e;subst hc
    split at e
    ·rename_i x y hxy
     split at e
     ·rename_i v hv
      split at e
      ·rename_i u hu
       have ea:as=#[x,y]:=by rw [←Array.toArray_toList (xs:=as),hxy]
       subst ea
       exact Qrr (mx:=false) ho hd hn (h1 _ _ hv) (h1 _ _ hu) e
      ·cases e
     ·cases e
    ·cases e
   ·rename_i hc
    dsimp only at hc e;subst hc
    split at e
    ·rename_i x hx
     split at e
     ·rename_i Tx hT
      split at e
      ·rename_i v hv
       have ea:as=#[x]:=by rw [←Array.toArray_toList (xs:=as),hx]
       have et:ts=#[Tx]:=by rw [←Array.toArray_toList (xs:=ts),hT]
       subst ea;subst et
       exact Qs1 ok ho hd hn (h1 _ _ hv) e hφ
      ·cases e
     ·cases e
    ·cases e
   ·rename_i x hc
    dsimp only at hc e;subst hc
    split at e
    ·rename_i fn fs cs hx
     split at e
     ·rename_i vs hv
      have e1:memB T.en fn=true:=by unfold QrR at e;exact(bifS e).1
      exact QsB ok (Qa2.clo ho (h1 _ _ hx) (ok.en e1) (QeJ h1 hv)) hd hn hpg h2 e hφ hf
     ·cases e
    ·cases e
   ·cases e
  ·cases e
end
end Go.Vm
