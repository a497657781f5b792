/- A part of the proof. -/
import Derived.WalkKit
import Derived.ProofKit
import Derived.MapKept
import Derived.Maps.RangeRun
import Derived.RangeFuncRecord
import Derived.RangeFuncLeaves
import Derived.LoopNIn
import Derived.OrdersIn
import Derived.TacticsIn
import Derived.Lib.Space
import Derived.Orders
set_option linter.all false
namespace Prod
noncomputable abbrev k {a b c d e : Type} (x : a × b × c × d × e) := x.2.2.2.2
noncomputable abbrev j {a b c d e f g h i : Type} (x : a × b × c × d × e × f × g × h × i) := x.2.2.2.2.2.2.2.2
end Prod
namespace Go.Vm
open Go Go.RowKit
open Option renaming some→X,none→n_
open Bool renaming true→t_,false→f_
abbrev L_:=@List
abbrev O_:=@Option
abbrev Qb6:=@Array.getD_eq_getD_getElem?
abbrev Qo2:=@Array.getElem?_append_left
abbrev GR:=@Array.getElem?_eq_getElem
abbrev Em:=@Array.getElem?_eq_some_iff
abbrev Qo3:=@Array.getElem?_modify
abbrev QeW:=@Array.getElem?_setIfInBounds
abbrev QrI:=@Array.getElem?_setIfInBounds_ne
abbrev Sv:=@Array.getElem?_toList
abbrev QlS:=@Array.mem_toList_iff
abbrev Qo4:=@Array.range_zero'
abbrev Qd2:=@Array.toArray_toList
abbrev QL:=@Bool.and_eq_true
abbrev QgM:=@Bool.eq_iff_iff
abbrev Qd3:=@Bool.not_eq_false
abbrev Hg:=@Bool.not_eq_false'
abbrev Zf:=@Bool.not_eq_true
abbrev AC:=@Bool.not_eq_true'
abbrev Qbw:=@Bool.not_false
abbrev DT:=@Bool.not_true
abbrev DH:=@Bool.or_eq_false_iff
abbrev WO:=@Bool.or_eq_true
abbrev Jb:=@Int.toNat_natCast
abbrev Sw:=@List.all_cons
abbrev XM:=@List.all_eq_true
abbrev No:=@List.any_eq_true
abbrev WC:=@List.append_assoc
abbrev Zg:=@List.append_nil
abbrev Sx:=@List.drop_eq_getElem_cons
abbrev Qm2:=@List.eq_nil_of_length_eq_zero
abbrev QgN:=@List.eq_of_mem_replicate
abbrev Sy:=@List.filter_append
abbrev Bz:=@List.filter_cons
abbrev Qd4:=@List.flatMap_append
abbrev PN:=@List.flatMap_cons
abbrev XN:=@List.forall_mem_cons
abbrev Qm3:=@List.getD_eq_getElem?_getD
abbrev Yp:=@List.getElem?_append_left
abbrev YJ:=@List.getElem?_append_right
abbrev QgO:=@List.getElem?_cons_succ
abbrev WP:=@List.getElem?_drop
abbrev QI:=@List.getElem?_eq_getElem
abbrev Zh:=@List.getElem?_eq_none
abbrev QX:=@List.getElem?_eq_some_iff
abbrev Ya:=@List.getElem?_map
abbrev SA:=@List.getElem?_set_ne
abbrev Qbx:=@List.getElem?_set_self
abbrev YQ:=@List.getElem?_take
abbrev Uu:=@List.getElem?_toArray
abbrev Jc:=@List.getElem_mem
abbrev Qj6:=@List.getElem_range
abbrev YR:=@List.length_append
abbrev DU:=@List.length_cons
abbrev Hh:=@List.length_drop
abbrev Np:=@List.length_eq_zero_iff
abbrev Nq:=@List.length_filter_le
abbrev KO:=@List.length_map
abbrev SB:=@List.length_nil
abbrev Qd5:=@List.length_range
abbrev QgP:=@List.length_replicate
abbrev Hj:=@List.length_singleton
abbrev Kd:=@List.length_take
abbrev GC:=@List.map_cons
abbrev Zi:=@List.map_map
abbrev Jy:=@List.mem_append
abbrev Zj:=@List.mem_append_left
abbrev Yw:=@List.mem_cons
abbrev Yq:=@List.mem_cons_of_mem
abbrev Yd:=@List.mem_cons_self
abbrev AD:=@List.mem_filter
abbrev Lr:=@List.mem_iff_getElem
abbrev GD:=@List.mem_iff_getElem?
abbrev Ye:=@List.mem_map
abbrev XG:=@List.mem_of_getElem?
abbrev Nr:=@List.mem_of_mem_drop
abbrev DV:=@List.mem_of_mem_take
abbrev Ea:=@List.mem_range
abbrev Hk:=@List.mem_singleton
abbrev Qd6:=@List.nil_append
abbrev Uv:=@List.nodup_cons
abbrev Qm4:=@List.pairwise_append
abbrev QgQ:=@List.pairwise_cons
abbrev Zk:=@List.pairwise_map
abbrev QgR:=@List.pairwise_singleton
abbrev Zl:=@List.size_toArray
abbrev Hl:=@List.take_add_one
abbrev Qj7:=@List.take_append_of_le_length
abbrev Hm:=@List.take_length
abbrev DW:=@List.take_of_length_le
abbrev Qby:=@List.take_succ_eq_append_getElem
abbrev Ns:=@Nat.add_assoc
abbrev YS:=@Nat.add_mul
abbrev PO:=@Nat.add_zero
abbrev Zm:=@Nat.ble_eq_true_of_le
abbrev Yr:=@Nat.eq_of_beq_eq_true
abbrev JT:=@Nat.le_of_ble_eq_true
abbrev YK:=@Nat.le_refl
abbrev PP:=@Nat.le_succ
abbrev Yx:=@Nat.le_trans
abbrev AE:=@Nat.lt_of_lt_of_le
abbrev DX:=@Nat.lt_or_ge
abbrev HZ:=@Nat.min_eq_left
abbrev Ys:=@Nat.mul_le_mul_right
abbrev Ia:=@Nat.one_mul
abbrev DY:=@Nat.zero_add
abbrev Ib:=@Nat.zero_mul
abbrev Pg:=@Option.bind_eq_some_iff
abbrev Qh:=@Option.bind_some
abbrev GG:=@Option.getD_some
abbrev Yf:=@Option.map_eq_some_iff
abbrev CQ:=@Option.map_none
abbrev Jh:=@Option.map_some
abbrev Xp:=@Result.andThen_ok
abbrev Xh:=@Sem.run_bind
abbrev Xq:=@Sem.run_pure
abbrev WK:=@bne_eq_false_iff_eq
abbrev Xn:=@cond_false
abbrev Xi:=@cond_true
abbrev Kh:=@decide_eq_false
abbrev XA:=@decide_eq_false_iff_not
abbrev Yy:=@decide_eq_true
abbrev QT:=@decide_eq_true_eq
abbrev QZ:=@of_decide_eq_true
inductive V where
 |b (x:Bool)
 |i (k:IntKind) (n:Int)
 |s (x:ByteArray)
 |sl (z:Nat) (rows:List (List V))
 |sln (β z:Nat) (rows:List (List V))
 |ro (cs:List V)
 |e0
 |own (o n:Nat)
 |tl (o k n:Nat)
 |loc (o i d:Nat)
 |map (o:Nat)
 |agg (cs:List V)
 |tup (cs:List V)
 |clo (fn:Fn) (first caps:List V)
 |ifc (t:TypeId) (x:V)
 |lit (x:Value)
 |J
def V.one : V->Bool
 |.agg _=>f_|.tup _=>f_|.J=>f_|.lit (.agg _)=>f_|.lit (.tuple _)=>f_|_=>t_
def Uw (z:Nat)(r:L_ V):Prop:=r.length=z/\∀v∈r,v.one=t_
inductive XJ (I:Nat->Prop) (w:World):Value->V->Prop where
 |b (x:Bool):XJ I w (.bool x) (.b x)
 |i (k:IntKind) (n:Int):XJ I w (.int k n) (.i k n)
 |s (x:ByteArray):XJ I w (.string x) (.s x)
 |lit (x:Value):XJ I w x (.lit x)
 |J (x:Value):XJ I w x .J
 |sl0 (a:Option Addr) (cap z:Nat):XJ I w (.slice a 0 cap) (.sl z [])
 |sl (b off len cap z:Nat) (rows:List (List V)) (c:Nat->Value):I b->len=rows.length->len<=cap->(∀r∈rows,Uw z r)->
   (∀j,j<len*z->w.cell? ⟨b,off+j,n_⟩=X (c j))->
   (∀(i:Nat) r,rows[i]? = X r->∀(j:Nat) v,r[j]? = X v->XJ I w (c (i*z+j)) v)->XJ I w (.slice (X ⟨b,off,n_⟩) len cap) (.sl z rows)
 |e0 (a:Option Addr):XJ I w (.slice a 0 0) .e0
 |sln0 (β:Nat) (a:Option Addr) (cap z:Nat):XJ I w (.slice a 0 cap) (.sln β z [])
 |sln (β b off len cap z:Nat) (rows:List (List V)) (cs:Array Value) (E:TypeId):β<=b->I b->len=rows.length->len<=cap->(∀r∈rows,Uw z r)->
   w.heap[b]? = X (.cells cs E (0,0))->off+len*z<=cs.size->
   (∀(i:Nat) r,rows[i]? = X r->∀(j:Nat) v,r[j]? = X v->XJ I w (cs.getD (off+(i*z+j)) undef) v)->XJ I w (.slice (X ⟨b,off,n_⟩) len cap) (.sln β z rows)
 |ro (b off:Nat) (cs:List V) (c:Nat->Value):I b->(∀v∈cs,v.one=t_)->(∀j,j<cs.length->w.cell? ⟨b,off+j,n_⟩=X (c j))->
   (∀(j:Nat) v,cs[j]? = X v->XJ I w (c j) v)->XJ I w (.pointer (X ⟨b,off,n_⟩)) (.ro cs)
 |agg (xs:Array Value) (cs:List V):xs.size=cs.length->(∀(j:Nat) x v,xs[j]? = X x->cs[j]? = X v->XJ I w x v)->XJ I w (.agg xs) (.agg cs)
 |tup (xs:Array Value) (cs:List V):xs.size=cs.length->(∀(j:Nat) x v,xs[j]? = X x->cs[j]? = X v->XJ I w x v)->XJ I w (.tuple xs) (.tup cs)
 |ifc (t:TypeId) (x:Value) (v:V):XJ I w x v->XJ I w (.iface t x) (.ifc t v)
def Kp (w w':World)(k:Nat):Prop:=(∀i,w'.cell? ⟨k,i,n_⟩=w.cell? ⟨k,i,n_⟩)/\∀h E,w.heap[k]? = X (.cells h E (0,0))->w'.heap[k]? = X (.cells h E (0,0))
def Kp.of {w w':World}{k:Nat}(h:w'.heap[k]? = w.heap[k]?):Kp w w' k:=⟨λ_=>World.cell?_of_block h,λ_ _ e=>h.trans e⟩
def XJ.monoC {I I':Nat->Prop}{w w':World}(h:∀k,I k->I' k/\Kp w w' k){x:Value}{v:V}(d:XJ I w x v):XJ I' w' x v:=by
 induction d with
 |b x=>exact .b x|i k n=>exact .i k n|s x=>exact .s x|lit x=>exact .lit x|J x=>exact .J x|sl0 a cap z=>exact .sl0 a cap z|sl b off len cap z rows c hI hl hc hr O _ ih=>
  exact .sl b off len cap z rows c (h b hI).1 hl hc hr (λj hj=>((h b hI).2.1 _).trans (O j hj)) ih
 |e0 a=>exact .e0 a|sln0 β a cap z=>exact .sln0 β a cap z|sln β b off len cap z rows cs E hβ hI hl hc hr O hsz _ ih=>
  exact .sln β b off len cap z rows cs E hβ (h b hI).1 hl hc hr ((h b hI).2.2 _ _ O) hsz ih
 |ro b off cs c hI ho O _ ih=>
  exact .ro b off cs c (h b hI).1 ho (λj hj=>((h b hI).2.1 _).trans (O j hj)) ih
 |agg xs cs hs _ ih=>exact .agg xs cs hs ih|tup xs cs hs _ ih=>exact .tup xs cs hs ih|ifc t x v _ ih=>exact .ifc t x v ih
def XJ.lo1 {I:Nat->Prop}{w:World}{x:Value}{β z:Nat}{rows:L_ (L_ V)}(d:XJ I w x (.sln β z rows)):XJ I w x (.sl z rows):=by
 cases d with
 |sln0=>exact .sl0 _ _ _|sln _ b off len cap _ _ O E _ hI hl hc hr h hsz hd=>
  refine .sl b off len cap z rows (λj=>O.getD (off+j) undef) hI hl hc hr (λj hj=>?_) hd;have:off+j<O.size:=by omega
  simp[World.cell?,h,Array.getD,this]
def XJ.mono {I I':Nat->Prop}{w w':World}(h:∀k,I k->I' k/\w'.heap[k]? = w.heap[k]?){x:Value}{v:V}(d:XJ I w x v):XJ I' w' x v:=
 d.monoC (λk O=>⟨(h k O).1,Kp.of (h k O).2⟩)
structure QV where
 b:Nat
 cap:Nat
 z:Nat
 more:List Nat:=[]
 off:Nat:=0
def QV.has (B:QV)(k:Nat):Prop:=k=B.b\/k∈B.more
def QV.self (B:QV):B.has B.b:=.inl rfl
inductive QR (Z:Nat->Option QV) (I:Nat->Prop) (w:World):Value->V->Prop where
 |dat {x:Value} {v:V}:XJ I w x v->QR Z I w x v
 |own0 (o:Nat):QR Z I w (.slice n_ 0 0) (.own o 0)
 |own (o n:Nat) (B:QV):Z o=X B->n<=B.cap->QR Z I w (.slice (X ⟨B.b,B.off,n_⟩) n B.cap) (.own o n)
 |tl0 (o k c:Nat) (a:Option Addr):QR Z I w (.slice a 0 c) (.tl o k 0)
 |tl (o k n c:Nat) (B:QV):Z o=X B->QR Z I w (.slice (X ⟨B.b,B.off+k,n_⟩) n c) (.tl o k n)
 |loc (o i d:Nat) (B:QV):Z o=X B->QR Z I w (.pointer (X ⟨B.b,B.off+(i*B.z+d),n_⟩)) (.loc o i d)
 |map (o:Nat) (B:QV):Z o=X B->QR Z I w (.map (X B.b)) (.map o)
 |agg (xs:Array Value) (cs:List V):xs.size=cs.length->(∀(j:Nat) x v,xs[j]? = X x->cs[j]? = X v->QR Z I w x v)->QR Z I w (.agg xs) (.agg cs)
 |tup (xs:Array Value) (cs:List V):xs.size=cs.length->(∀(j:Nat) x v,xs[j]? = X x->cs[j]? = X v->QR Z I w x v)->QR Z I w (.tuple xs) (.tup cs)
 |ifc (t:TypeId) (x:Value) (v:V):QR Z I w x v->QR Z I w (.iface t x) (.ifc t v)
 |clo (fn:Fn) (xs ys:Array Value) (vs us:List V):xs.size=vs.length->ys.size=us.length->(∀(j:Nat) x v,xs[j]? = X x->vs[j]? = X v->QR Z I w x v)->
   (∀(j:Nat) x v,ys[j]? = X x->us[j]? = X v->QR Z I w x v)->QR Z I w (.func fn xs ys) (.clo fn vs us)
def QR.monoC {Z φ':Nat->O_ QV}{I I':Nat->Prop}{w w':World}(hφ:∀o B,Z o=X B->φ' o=X B)(h:∀k,I k->I' k/\Kp w w' k){x:Value}{v:V}
  (d:QR Z I w x v):QR φ' I' w' x v:=by
 induction d with|dat d=>exact .dat (d.monoC h)|own0 o=>exact .own0 o|own o n B O hn=>exact .own o n B (hφ o B O) hn|tl0 o k c a=>exact .tl0 o k c a|tl o k n c B O=>exact .tl o k n c B (hφ o B O)|loc o i d B O=>exact .loc o i d B (hφ o B O)|map o B O=>exact .map o B (hφ o B O)|agg xs cs hs _ ih=>exact .agg xs cs hs ih|tup xs cs hs _ ih=>exact .tup xs cs hs ih|ifc t x v _ ih=>exact .ifc t x v ih|clo fn xs ys vs us h1 h2 _ _ ih1 ih2=>exact .clo fn xs ys vs us h1 h2 ih1 ih2
def QR.mono {Z φ':Nat->O_ QV}{I I':Nat->Prop}{w w':World}(hφ:∀o B,Z o=X B->φ' o=X B)(h:∀k,I k->I' k/\w'.heap[k]? = w.heap[k]?){x:Value}{v:V}
  (d:QR Z I w x v):QR φ' I' w' x v:=
 d.monoC hφ (λk O=>⟨(h k O).1,Kp.of (h k O).2⟩)
section inv
variable {Z:Nat->O_ QV}{I:Nat->Prop}{w:World}{x:Value}
def QR.b_inv {y:Bool}(h:QR Z I w x (.b y)):x=.bool y:=by
 cases h with|dat h=>cases h;rfl
def QR.i_inv {k:IntKind}{n:Int}(h:QR Z I w x (.i k n)):x=.int k n:=by
 cases h with|dat h=>cases h;rfl
def QR.s_inv {y:ByteArray}(h:QR Z I w x (.s y)):x=.string y:=by
 cases h with|dat h=>cases h;rfl
def QR.lit_inv {y:Value}(h:QR Z I w x (.lit y)):x=y:=by
 cases h with|dat h=>cases h;rfl
def QR.agg_inv {O:L_ V}(h:QR Z I w x (.agg O)):∃xs:Array Value,x=.agg xs/\xs.size=O.length/\∀(j:Nat) x v,xs[j]? = X x->O[j]? = X v->QR Z I w x v:=by
 cases h with
 |dat h=>cases h with|agg xs _ hs hr=>exact⟨xs,rfl,hs,λj x v h1 h2=>.dat (hr j x v h1 h2)⟩
 |agg xs _ hs hr=>exact⟨xs,rfl,hs,hr⟩
def QR.tup_inv {O:L_ V}(h:QR Z I w x (.tup O)):∃xs:Array Value,x=.tuple xs/\xs.size=O.length/\∀(j:Nat) x v,xs[j]? = X x->O[j]? = X v->QR Z I w x v:=by
 cases h with
 |dat h=>cases h with|tup xs _ hs hr=>exact⟨xs,rfl,hs,λj x v h1 h2=>.dat (hr j x v h1 h2)⟩
 |tup xs _ hs hr=>exact⟨xs,rfl,hs,hr⟩
def QR.ro_inv {O:L_ V}(h:QR Z I w x (.ro O)):∃b off,x=.pointer (X ⟨b,off,n_⟩)/\I b/\(∀v∈O,v.one=t_)/\∃c:Nat->Value,(∀j,j<O.length->w.cell? ⟨b,off+j,n_⟩=X (c j))/\∀(j:Nat) v,O[j]? = X v->XJ I w (c j) v:=by
 cases h with|dat h=>cases h with|ro b off _ c hI ho hc hr=>exact⟨b,off,rfl,hI,ho,c,hc,hr⟩
def QR.loc_inv {o i d:Nat}(h:QR Z I w x (.loc o i d)):∃B,Z o=X B/\x=.pointer (X ⟨B.b,B.off+(i*B.z+d),n_⟩):=by
 cases h with
 |dat h=>cases h
 |loc _ _ _ B O=>exact⟨B,O,rfl⟩
def QR.map_inv {o:Nat}(h:QR Z I w x (.map o)):∃B,Z o=X B/\x=.map (X B.b):=by
 cases h with
 |dat h=>cases h
 |map _ B O=>exact⟨B,O,rfl⟩
def QR.tl_inv {o k n:Nat}(h:QR Z I w x (.tl o k n)):(∃a c,x=.slice a 0 c/\n=0)\/∃B c,Z o=X B/\x=.slice (X ⟨B.b,B.off+k,n_⟩) n c:=by
 cases h with
 |dat h=>cases h
 |tl0 _ _ c a=>exact .inl ⟨a,c,rfl,rfl⟩|tl _ _ _ c B O=>exact .inr ⟨B,c,O,rfl⟩
def QR.own_inv {o n:Nat}(h:QR Z I w x (.own o n)):(x=.slice n_ 0 0/\n=0)\/∃B,Z o=X B/\n<=B.cap/\x=.slice (X ⟨B.b,B.off,n_⟩) n B.cap:=by
 cases h with
 |dat h=>cases h
 |own0=>exact .inl ⟨rfl,rfl⟩|own _ _ B O hn=>exact .inr ⟨B,O,hn,rfl⟩
def QR.sl_inv {z:Nat}{rows:L_ (L_ V)}(h:QR Z I w x (.sl z rows)):
  (∃a cap,x=.slice a 0 cap/\rows=[])\/
  ∃b off cap,x=.slice (X ⟨b,off,n_⟩) rows.length cap/\I b/\rows.length<=cap/\(∀r∈rows,Uw z r)/\
   ∃c:Nat->Value,(∀j,j<rows.length*z->w.cell? ⟨b,off+j,n_⟩=X (c j))/\∀(i:Nat) r,rows[i]? = X r->∀(j:Nat) v,r[j]? = X v->XJ I w (c (i*z+j)) v:=by
 cases h with
 |dat h=>cases h with|sl0 a cap z=>exact .inl ⟨a,cap,rfl,rfl⟩|sl b off len cap z rows c hI hl hc hr O hd=>subst hl;exact .inr ⟨b,off,cap,rfl,hI,hc,hr,c,O,hd⟩
def QR.ifc_inv {t:TypeId}{v:V}(h:QR Z I w x (.ifc t v)):∃y,x=.iface t y/\QR Z I w y v:=by
 cases h with
 |dat h=>cases h with|ifc _ y _ h=>exact⟨y,rfl,.dat h⟩
 |ifc _ y _ h=>exact⟨y,rfl,h⟩
def QR.clo_inv {fn:Fn}{vs us:L_ V}(h:QR Z I w x (.clo fn vs us)):∃xs O:Array Value,x=.func fn xs O/\xs.size=vs.length/\O.size=us.length/\
  (∀(j:Nat) x v,xs[j]? = X x->vs[j]? = X v->QR Z I w x v)/\∀(j:Nat) x v,O[j]? = X x->us[j]? = X v->QR Z I w x v:=by
 cases h with
 |dat h=>cases h
 |clo _ xs O _ _ h1 h2 h3 h4=>exact⟨xs,O,rfl,h1,h2,h3,h4⟩
end inv
structure Ec where
 fn:FuncId
 ps:Array Tmp
 assign:Code
 body:Code
inductive Ob where
 |var (cs:List V)
 |lp (l:Nat) (K:Ec) (cs:List V) (q:Nat)
 |arr (z:Nat) (rs:List (List V))
 |map (es:List (V×V))
 |grp (z:Nat) (es:List (V×List (List V))) (out:Option V)
 |mapX (bm clock:Nat) (L:List (Nat×(V×V))) (l:List (V×V))
 |itr (bm since:Nat) (seen:Array Nat) (cur:Option Nat)
 |itr0
 |tbl (A:Nat->Nat) (z:Nat) (rs:List (List V))
 |nst (x:Value) (v:V)
 |scr (D:Nat->Nat->Prop) (H:Nat->Nat->Value->Prop)
def Ob.Nil : Ob->Prop
 |.arr _ rs=>rs=[]|.tbl _ _ rs=>rs=[]|.nst x v=>∀w,XJ (λ_=>False) w x v|.scr D H=>(∀b i,¬D b i)/\∀b i y,¬H b i y|_=>False
def En (I:Nat->Prop)(w:World)(B:QV)(A:Nat->Nat)(z:Nat)(rs:L_ (L_ V)):Prop:=
 B.b::B.more=(List.range rs.length).map A/\(B.b::B.more).Nodup/\(∀r∈rs,Uw z r)/\
  ∀(i:Nat) r,rs[i]? = X r->∃h E,w.heap[A i]? = X (.cells h E (0,0))/\h.size=z/\∀(j:Nat) v,r[j]? = X v->∃x,h[j]? = X x/\XJ I w x v
def En.has {I:Nat->Prop}{w:World}{B:QV}{A:Nat->Nat}{z:Nat}{rs:L_ (L_ V)}(d:En I w B A z rs)(k:Nat):B.has k↔∃i,i<rs.length/\A i=k:=by
 have:B.has k↔k∈B.b::B.more:=by unfold QV.has;exact Yw.symm
 rw[this,d.1];simp
def En.monoC {I I':Nat->Prop}{w w':World}(h:∀k,I k->I' k/\Kp w w' k){B:QV}(hB:∀k,B.has k->w'.heap[k]? = w.heap[k]?){A:Nat->Nat}{z:Nat}{rs:L_ (L_ V)}(d:En I w B A z rs):En I' w' B A z rs:=by
 refine⟨d.1,d.2.1,d.2.2.1,λi r hi=>?_⟩;obtain⟨O,E,h1,h2,h3⟩:=d.2.2.2 i r hi;exact⟨O,E,(hB _ ((d.has _).2 ⟨i,(QX.1 hi).1,rfl⟩)).trans h1,h2,λj v hj=>let ⟨x,hx,hd⟩:=h3 j v hj;⟨x,hx,hd.monoC h⟩⟩
def En.mono {I I':Nat->Prop}{w w':World}(h:∀k,I k->I' k/\w'.heap[k]? = w.heap[k]?){B:QV}(hB:∀k,B.has k->w'.heap[k]? = w.heap[k]?){A:Nat->Nat}{z:Nat}{rs:L_ (L_ V)}(d:En I w B A z rs):En I' w' B A z rs:=
 En.monoC (λk O=>⟨(h k O).1,Kp.of (h k O).2⟩) hB d
def Qye (Z:Nat->O_ QV)(I:Nat->Prop)(w:World)(B:QV)(vs:L_ V):Prop:=
 ∃h E,w.heap[B.b]? = X (.cells h E (0,0))/\h.size=vs.length/\B.off=0/\∀(j:Nat) x v,h[j]? = X x->vs[j]? = X v->QR Z I w x v
def Yc (I:Nat->Prop)(w:World)(B:QV)(z:Nat)(rs:L_ (L_ V)):Prop:=
 B.z=z/\rs.length<=B.cap/\(∀r∈rs,Uw z r)/\∃h E,w.heap[B.b]? = X (.cells h E (0,0))/\B.off+B.cap*z<=h.size/\
  ∀(i:Nat) r,rs[i]? = X r->∀(j:Nat) v,r[j]? = X v->∃x,h[B.off+(i*z+j)]? = X x/\XJ I w x v
def Yc.mk0 {I:Nat->Prop}{w:World}{B:QV}{z:Nat}{rs:L_ (L_ V)}(hz:B.z=z)(h0:B.off=0)(hl:rs.length<=B.cap)(O:∀r∈rs,Uw z r)(h:Array Value)(E:TypeId)
  (h1:w.heap[B.b]? = X (.cells h E (0,0))) (h2:h.size=B.cap*z) (h3:∀(i:Nat) r,rs[i]? = X r->∀(j:Nat) v,r[j]? = X v->∃x,h[i*z+j]? = X x/\XJ I w x v):Yc I w B z rs:=
 ⟨hz,hl,O,h,E,h1,by rw[h0,DY];exact Nat.le_of_eq h2.symm,λi r hi j v hj=>by rw[h0,DY];exact h3 i r hi j v hj⟩
def Dz (I:Nat->Prop)(w:World)(B:QV)(l:L_ (V×V)):Prop:=
 ∃es h,w.heap[B.b]? = X (.map es h)/\MapKept.Stamped es h/\(l.map Prod.fst).Nodup/\es.size=l.length/\
  (∀x∈es.toList,∃p∈l,XJ I w x.key p.1/\XJ I w x.val p.2)/\∀p∈l,∃x∈es.toList,XJ I w x.key p.1/\XJ I w x.val p.2
def KP (I:Nat->Prop)(w:World)(B:QV)(z:Nat)(l:L_ (V×L_ (L_ V)))(out:O_ V):Prop:=
 ∃es h,w.heap[B.b]? = X (.map es h)/\MapKept.Stamped es h/\(l.map Prod.fst).Nodup/\es.size=l.length/\
  ∃bs:L_ (O_ QV),bs.length=l.length/\B.more=bs.filterMap (Option.map QV.b)/\(B.b::B.more).Nodup/\
   (∀(i:Nat) (x:MapEntry) E,es[i]? = X x->bs[i]? = X E->∃p∈l,XJ I w x.key p.1/\((∃F,E=X F/\F.more=[]/\out≠X p.1/\Yc I w F z p.2/\x.val=.slice (X ⟨F.b,F.off,n_⟩) p.2.length F.cap)\/(E=n_/\out=X p.1)))/\
   (∀p∈l,∃(i:Nat) (x:MapEntry),es[i]? = X x/\XJ I w x.key p.1)
def EI (I:Nat->Prop)(w:World)(B:QV)(O h:Nat)(L:L_ (Nat×(V×V)))(l:L_ (V×V)):Prop:=
 B.b=O/\∃M:L_ (MapEntry×(V×V)),M.map (λq=>(q.1.born,q.2))=L/\w.heap[B.b]? = X (.map (M.map Prod.fst).toArray h)/\MapKept.Stamped (M.map Prod.fst).toArray h/\(l.map Prod.fst).Nodup/\(M.map Prod.snd).Perm l/\
  ∀q∈M,XJ I w q.1.key q.2.1/\XJ I w q.1.val q.2.2
def ZC (w:World)(B:QV)(bm h:Nat)(O:Array Nat)(cur:O_ Nat):Prop:=
 w.heap[B.b]? = X (.mapIter (X bm) h O h)/\B.off=0/\∀x,cur=X x->∃s0:Array Nat,O=s0.push x
def jmp : Nat->O_ Code
 |0=>n_|1=>n_|2=>X .ret|k+3=>X (.exit k)
def lst : Nat->LoopState
 |0=>.ready|1=>.busy|_=>.done
def Qxl (Z:Nat->O_ QV)(I:Nat->Prop)(w:World)(B:QV)(l:Nat)(K:Ec)(vs:L_ V)(q:Nat):Prop:=
 ∃tmps D,B.b=l/\B.more=[]/\w.heap[l]? = X (.loop { state:=lst q,pending:=jmp q,fn:=K.fn,tmps,params:=K.ps,assign:=K.assign,body:=K.body,defers:=D })/\tmps.size=vs.length/\
  ∀(j:Nat) x v,tmps[j]? = X x->vs[j]? = X v->QR Z I w x v
def ZD (w:World)(B:QV)(x:Value)(v:V):Prop:=XJ B.has w x v/\∀k,B.has k->∃h E,w.heap[k]? = X (.cells h E (0,0))
def ZD.mono {w w':World}{B:QV}(hB:∀k,B.has k->w'.heap[k]? = w.heap[k]?){x:Value}{v:V}(d:ZD w B x v):ZD w' B x v:=
 ⟨d.1.mono λk O=>⟨O,hB k O⟩,λk O=>let ⟨cs,E,h⟩:=d.2 k O;⟨cs,E,(hB k O).trans h⟩⟩
def ZE (w:World)(B:QV)(D:Nat->Nat->Prop)(H:Nat->Nat->Value->Prop):Prop:=
 (∀b i,D b i->B.has b/\∃h E n,w.heap[b]? = X (.cells h E (0,0))/\h[i]? = X (.int .i64 n))/\∀b i y,H b i y->B.has b/\¬D b i/\w.cell? ⟨b,i,n_⟩=X y
def ZE.mono {w w':World}{B:QV}(O:∀k,B.has k->w'.heap[k]? = w.heap[k]?){D:Nat->Nat->Prop}{H:Nat->Nat->Value->Prop}(d:ZE w B D H):ZE w' B D H:=
 ⟨λb i h=>let ⟨h1,cs,E,n,h2,h3⟩:=d.1 b i h;⟨h1,cs,E,n,(O b h1).trans h2,h3⟩,λb i y h=>let ⟨h1,h2,h3⟩:=d.2 b i y h;⟨h1,h2,(World.cell?_of_block (O b h1)).trans h3⟩⟩
def Jg (Z:Nat->O_ QV)(I:Nat->Prop)(w:World)(B:QV):Ob->Prop
 |.var vs=>Qye Z I w B vs|.lp l K vs q=>Qxl Z I w B l K vs q|.arr z rs=>Yc I w B z rs|.map l=>Dz I w B l|.grp z l out=>KP I w B z l out|.mapX bm h L l=>EI I w B bm h L l|.itr bm O seen cur=>ZC w B bm O seen cur|.itr0=>∃s c,w.heap[B.b]? = X (.mapIter n_ 0 s c)/\B.off=0|.tbl A z rs=>En I w B A z rs|.nst x v=>ZD w B x v|.scr D H=>ZE w B D H
def Yc.monoC {I I':Nat->Prop}{w w':World}(h:∀k,I k->I' k/\Kp w w' k){B:QV}(hB:w'.heap[B.b]? = w.heap[B.b]?){z:Nat}{rs:L_ (L_ V)}(d:Yc I w B z rs):
  Yc I' w' B z rs:=by
 obtain⟨h1,h2,h3,O,E,h4,h5,h6⟩:=d;exact⟨h1,h2,h3,O,E,hB.trans h4,h5,λi r hi j v hj=>let ⟨x,hx,hr⟩:=h6 i r hi j v hj;⟨x,hx,hr.monoC h⟩⟩
def Yc.mono {I I':Nat->Prop}{w w':World}(h:∀k,I k->I' k/\w'.heap[k]? = w.heap[k]?){B:QV}(hB:w'.heap[B.b]? = w.heap[B.b]?){z:Nat}{rs:L_ (L_ V)}(d:Yc I w B z rs):
  Yc I' w' B z rs:=
 Yc.monoC (λk O=>⟨(h k O).1,Kp.of (h k O).2⟩) hB d
def Dz.monoC {I I':Nat->Prop}{w w':World}(h:∀k,I k->I' k/\Kp w w' k){B:QV}(hB:w'.heap[B.b]? = w.heap[B.b]?){l:L_ (V×V)}(d:Dz I w B l):Dz I' w' B l:=by
 obtain⟨es,O,h1,h2,h3,h4,h5,h6⟩:=d;exact⟨es,O,hB.trans h1,h2,h3,h4,λx hx=>let ⟨p,hp,a,b⟩:=h5 x hx;⟨p,hp,a.monoC h,b.monoC h⟩,λp hp=>let ⟨x,hx,a,b⟩:=h6 p hp;⟨x,hx,a.monoC h,b.monoC h⟩⟩
def Dz.mono {I I':Nat->Prop}{w w':World}(h:∀k,I k->I' k/\w'.heap[k]? = w.heap[k]?){B:QV}(hB:w'.heap[B.b]? = w.heap[B.b]?){l:L_ (V×V)}(d:Dz I w B l):Dz I' w' B l:=
 Dz.monoC (λk O=>⟨(h k O).1,Kp.of (h k O).2⟩) hB d
def QgS {bs:L_ (O_ QV)}{i:Nat}{F:QV}(h:bs[i]? = X (X F)):F.b∈bs.filterMap (Option.map QV.b):=List.mem_filterMap.2 ⟨X F,XG h,rfl⟩
def KP.monoC {I I':Nat->Prop}{w w':World}(h:∀k,I k->I' k/\Kp w w' k){B:QV}(hB:∀k,B.has k->w'.heap[k]? = w.heap[k]?){z:Nat}{l:L_ (V×L_ (L_ V))}{out:O_ V}(d:KP I w B z l out):KP I' w' B z l out:=by
 obtain⟨es,O,h1,h2,h3,h4,bs,h5,h6,h7,h8,h9⟩:=d;refine⟨es,O,(hB _ B.self).trans h1,h2,h3,h4,bs,h5,h6,h7,λi x E hx hE=>?_,λp hp=>let ⟨i,x,a,b⟩:=h9 p hp;⟨i,x,a,b.monoC h⟩⟩;obtain⟨p,hp,a1,a2⟩:=h8 i x E hx hE;refine⟨p,hp,a1.monoC h,a2.imp (λ⟨F,c0,c1,c2,c3,c4⟩=>⟨F,c0,c1,c2,c3.monoC h (hB _ (.inr ?_)),c4⟩) id⟩;subst c0;rw[h6];exact QgS hE
def KP.mono {I I':Nat->Prop}{w w':World}(h:∀k,I k->I' k/\w'.heap[k]? = w.heap[k]?){B:QV}(hB:∀k,B.has k->w'.heap[k]? = w.heap[k]?){z:Nat}{l:L_ (V×L_ (L_ V))}{out:O_ V}(d:KP I w B z l out):KP I' w' B z l out:=
 KP.monoC (λk O=>⟨(h k O).1,Kp.of (h k O).2⟩) hB d
def EI.monoC {I I':Nat->Prop}{w w':World}(h:∀k,I k->I' k/\Kp w w' k){B:QV}(hB:w'.heap[B.b]? = w.heap[B.b]?){bm O:Nat}{L:L_ (Nat×(V×V))}{l:L_ (V×V)}(d:EI I w B bm O L l):EI I' w' B bm O L l:=by
 obtain⟨h1,M,h0,h2,h3,h4,h5,h6⟩:=d;exact⟨h1,M,h0,hB.trans h2,h3,h4,h5,λq hq=>⟨(h6 q hq).1.monoC h,(h6 q hq).2.monoC h⟩⟩
def EI.mono {I I':Nat->Prop}{w w':World}(h:∀k,I k->I' k/\w'.heap[k]? = w.heap[k]?){B:QV}(hB:w'.heap[B.b]? = w.heap[B.b]?){bm O:Nat}{L:L_ (Nat×(V×V))}{l:L_ (V×V)}(d:EI I w B bm O L l):EI I' w' B bm O L l:=
 EI.monoC (λk hk=>⟨(h k hk).1,Kp.of (h k hk).2⟩) hB d
def ZC.mono {w w':World}{B:QV}(hB:w'.heap[B.b]? = w.heap[B.b]?){bm h:Nat}{O:Array Nat}{cur:O_ Nat}(d:ZC w B bm h O cur):ZC w' B bm h O cur:=
 ⟨hB.trans d.1,d.2⟩
def Jg.monoC {Z φ':Nat->O_ QV}{I I':Nat->Prop}{w w':World}(hφ:∀o B,Z o=X B->φ' o=X B)(h:∀k,I k->I' k/\Kp w w' k)
  {B:QV} (O:∀k,B.has k->w'.heap[k]? = w.heap[k]?) {ob:Ob} (d:Jg Z I w B ob):Jg φ' I' w' B ob:=by
 cases ob with
 |var vs=>
  obtain⟨cs,E,h1,h2,h0,h3⟩:=d;exact⟨cs,E,(O _ B.self).trans h1,h2,h0,λj x v hx hv=>(h3 j x v hx hv).monoC hφ h⟩
 |lp l K vs q=>
  obtain⟨tmps,D,rfl,h1,h2,h3,h4⟩:=d;exact⟨tmps,D,rfl,h1,(O _ B.self).trans h2,h3,λj x v hx hv=>(h4 j x v hx hv).monoC hφ h⟩
 |arr z rs=>exact Yc.monoC h (O _ B.self) d|map l=>exact Dz.monoC h (O _ B.self) d|grp z l lk=>exact KP.monoC h O d|mapX bm clock L l=>exact EI.monoC h (O _ B.self) d|itr bm since seen cur=>exact ZC.mono (O _ B.self) d|itr0=>obtain⟨s,c,h1⟩:=d;exact⟨s,c,(O _ B.self).trans h1.1,h1.2⟩
 |tbl A z rs=>exact En.monoC h O d|nst x v=>exact ZD.mono O d|scr D H=>exact ZE.mono O d
def Jg.mono {Z φ':Nat->O_ QV}{I I':Nat->Prop}{w w':World}(hφ:∀o B,Z o=X B->φ' o=X B)(h:∀k,I k->I' k/\w'.heap[k]? = w.heap[k]?)
  {B:QV} (hB:∀k,B.has k->w'.heap[k]? = w.heap[k]?) {ob:Ob} (d:Jg Z I w B ob):Jg φ' I' w' B ob:=
 Jg.monoC hφ (λk O=>⟨(h k O).1,Kp.of (h k O).2⟩) hB d
def look {α:Type}:L_ (Nat×α)->Nat->O_ α
 |[],_=>n_|(k,v)::r,t=>bif Nat.beq k t then X v else look r t
def QB {α:Type}(k:Nat)(v:α)(r:L_ (Nat×α)):look ((k,v)::r) k=X v:=by simp[look]
def Qz {α:Type}{k t:Nat}(v:α)(r:L_ (Nat×α))(h:k≠t):look ((k,v)::r) t=look r t:=by
 have:Nat.beq k t=f_:=by
  cases O:Nat.beq k t with|false=>rfl|true=>exact absurd (Yr O) h
 simp[look,this]
abbrev H_:=L_ (Nat×Ob)
abbrev S_:=L_ (Nat×V)
structure St where
 fr:List (Nat×V)
 hp:List (Nat×Ob)
def St.put (Y:St)(t:Nat)(v:V):St:={ fr:=(t,v)::Y.fr,hp:=Y.hp }
def St.set (Y:St)(o:Nat)(ob:Ob):St:={ fr:=Y.fr,hp:=(o,ob)::Y.hp }
def Bh : Value->V
 |.bool x=>.b x|.int k n=>.i k n|.string x=>.s x|x=>.lit x
def St.opd (Y:St):Operand->O_ V
 |.tmp t=>look Y.fr t|.const v=>X (Bh v)|.func f=>X (.clo (.func f) [] [])|.global g=>X (.lit (.pointer (X ⟨g,0,n_⟩)))
structure Xs where
 w0:World
 S:Nat->Prop
 W:Nat->Prop
 n:Nat
 φ0:Nat->Option QV
 small:n<=639
 rnd:Option Nat:=n_
abbrev B_ (d:Nat) (C:Xs):Prop:=Nat.ble (d+1) C.n=t_
def Xs.F (C:Xs):Fence:={ fn:=λ_=>True,depth:=n_,alive:=f_,round:=C.rnd }
def QrA (b:Nat)(I:Nat->Prop)(w:World)(O:L_ Deferred):Prop:=∃h:L_ Nat,O=h.map (λD=>{ target:=.collected D,args:=#[] })/\h.Nodup/\∀D∈h,b<=D/\I D/\w.heap[D]? = X (.deferred (X []))
def QrA.mono {b:Nat}{I I':Nat->Prop}{w w':World}(h:∀k,I k->I' k/\w'.heap[k]? = w.heap[k]?){O:L_ Deferred}(m:QrA b I w O):QrA b I' w' O:=by
 obtain⟨Ds,h1,h2,h3⟩:=m;exact⟨Ds,h1,h2,λD hD=>let ⟨a1,a2,a3⟩:=h3 D hD;⟨a1,(h D a2).1,(h D a2).2.trans a3⟩⟩
def Xc (C:Xs)(Z:Nat->O_ QV)(w:World)(k:Nat):Prop:=
 k<w.heap.size/\(k<C.w0.heap.size->C.S k)/\∀o B,Z o=X B->¬B.has k
def Qd7 (φ0 Z:Nat->O_ QV)(hp:H_):Prop:=(∀o B,639<=o->Z o=X B->φ0 o=X B)/\∀o ob B,639<=o->look hp o=X ob->φ0 o=X B->Z o=X B
def Qd7.sub {φ0 Z:Nat->O_ QV}{hp O:H_}(h:Qd7 φ0 Z hp)(hs:∀o ob,look O o=X ob->∃ob',look hp o=X ob'):Qd7 φ0 Z O:=
 ⟨h.1,λo ob B h1 h2 h3=>let ⟨ob',h4⟩:=hs o ob h2;h.2 o ob' B h1 h4 h3⟩
structure RR (C:Xs) (Z:Nat->Option QV) (Y:St) (a:Act) (w:World):Prop where
 os:w.os=C.w0.os
 tape:w.tape=C.w0.tape
 output:w.output=C.w0.output
 size:C.w0.heap.size<=w.heap.size
 kept:∀k,k<C.w0.heap.size->¬C.W k->w.heap[k]? = C.w0.heap[k]?
 inj:∀o o' B B' k,Z o=X B->Z o'=X B'->B.has k->B'.has k->o=o'
 dom:∀o B,Z o=X B->∃ob,look Y.hp o=X ob
 lt:∀o B k,Z o=X B->B.has k->k<w.heap.size/\(k<C.w0.heap.size->C.W k)
 new:∀o B k,Z o=X B->B.has k->o<635->C.w0.heap.size<=k
 stay:Qd7 C.φ0 Z Y.hp
 tmps:a.tmps.size=C.n
 defers:QrA C.w0.heap.size (Xc C Z w) w a.defers
 frame:∀t v,look Y.fr t=X v->∃x,a.tmps[t]? = X x/\QR Z (Xc C Z w) w x v
 heap:∀o ob,look Y.hp o=X ob->(∃B,Z o=X B/\Jg Z (Xc C Z w) w B ob)\/(Z o=n_/\ob.Nil)
def R (C:Xs)(Y:St)(a:Act)(w:World):Prop:=∃Z,RR C Z Y a w
section
variable {C:Xs}{Z:Nat->O_ QV}{Y:St}{a:Act}{w:World}
def RR.opd (h:RR C Z Y a w){x:Operand}{v:V}(O:Y.opd x=X v):QR Z (Xc C Z w) w (a.eval x) v:=by
 cases x with
 |tmp t=>
  obtain⟨x,hx,hr⟩:=h.frame t v O;simpa[Act.eval,Qb6,hx] using hr
 |const c=>
  simp only[St.opd,Option.some.injEq]at O;subst O;cases c<;>first|exact .dat (.b _)|exact .dat (.i _ _)|exact .dat (.s _)|exact .dat (.lit _)
 |global g=>simp only[St.opd,Option.some.injEq]at O;subst O;exact .dat (.lit _)|func f=>simp only[St.opd,Option.some.injEq]at O;subst O;exact .clo (.func f) #[] #[] [] [] rfl rfl (λj x v h=>by simp at h) (λj x v h=>by simp at h)
def RR.put (h:RR C Z Y a w){t:Nat}{x:Value}{v:V}(ht:t<C.n)(hx:QR Z (Xc C Z w) w x v):RR C Z (Y.put t v) (a.put (X t) x) w:=by
 refine⟨h.os,h.tape,h.output,h.size,h.kept,h.inj,h.dom,h.lt,h.new,h.stay,by simpa[Act.put] using h.tmps,h.defers,?_,h.heap⟩;intro t' v' O;by_cases ht':t=t'
 ·subst ht';rw[St.put,QB]at O;cases O;exact⟨x,by simp[Act.put,QeW,h.tmps,ht],hx⟩
 rw[St.put,Qz _ _ ht']at O;obtain⟨y,hy,hr⟩:=h.frame t' v' O;exact⟨y,by simpa[Act.put,QeW,ht'] using hy,hr⟩
def RR.le (h:RR C Z Y a w){fr:S_}(O:∀t v,look fr t=X v->look Y.fr t=X v):RR C Z ⟨fr,Y.hp⟩ a w:=
 ⟨h.os,h.tape,h.output,h.size,h.kept,h.inj,h.dom,h.lt,h.new,h.stay,h.tmps,h.defers,λt v hv=>h.frame t v (O t v hv),h.heap⟩
def RR.step (h:RR C Z Y a w){w':World}(ho:w'.os=w.os)(ht:w'.tape=w.tape)(hu:w'.output=w.output)(hs:w.heap.size<=w'.heap.size)
  (hk:∀k,k<w.heap.size->w'.heap[k]? = w.heap[k]?):RR C Z Y a w':=by
 have hI:∀k,Xc C Z w k->Xc C Z w' k/\w'.heap[k]? = w.heap[k]? := λk O=>⟨⟨AE O.1 hs,O.2⟩,hk k O.1⟩;refine⟨ho.trans h.os,ht.trans h.tape,hu.trans h.output,Yx h.size hs,λk h1 h2=>(hk k (AE h1 h.size)).trans (h.kept k h1 h2),h.inj,h.dom,
  λo B k hB hk=>⟨AE (h.lt o B k hB hk).1 hs,(h.lt o B k hB hk).2⟩,h.new,h.stay,h.tmps,h.defers.mono hI,?_,?_⟩
 ·intro t v hv;obtain⟨x,hx,hr⟩:=h.frame t v hv;exact⟨x,hx,hr.mono (λ_ _ h=>h) hI⟩
 intro o ob hob;rcases h.heap o ob hob with⟨B,hB,hr⟩|hn
 ·exact .inl ⟨B,hB,hr.mono (λ_ _ h=>h) hI λk O=>hk _ (h.lt o B k hB O).1⟩
 exact .inr hn
end
inductive Qb7 {Y ρ:Type} (body:Y->Option (Y⊕ρ)):Y->ρ->Prop where
 |done {s:Y} {r:ρ}:body s=X (.inr r)->Qb7 body s r
 |next {s s':Y} {r:ρ}:body s=X (.inl s')->Qb7 body s' r->Qb7 body s r
def Qb7.det {Y ρ:Type}{body:Y->O_ (Y⊕ρ)}{s:Y}{r r':ρ}(h:Qb7 body s r)(h':Qb7 body s r'):r=r':=by
 induction h with
 |done h=>cases h' with
  |done O=>rw[h]at O;cases O;rfl
  |next O _=>rw[h]at O;cases O
 |next h _ ih=>cases h' with
  |done O=>rw[h]at O;cases O
  |next O h3=>rw[h]at O;cases O;exact ih h3
def loopN {Y ρ:Type}(body:Y->O_ (Y⊕ρ)):Nat->Y->O_ ρ
 |0,_=>n_|n+1,s=>match body s with|none=>n_|some (.inl h)=>loopN body n h|some (.inr r)=>X r
def Qty {Y ρ:Type}{body:Y->O_ (Y⊕ρ)}{r:ρ}:∀(n:Nat) (s:Y),loopN body n s=X r->Qb7 body s r:=by
 intro n
 induction n with
 |zero=>intro s h;cases h
 |succ n ih=>
  intro s h;rw[loopN]at h;split at h
  ·cases h
  ·rename_i s' O;exact .next O (ih s' h)
  rename_i r' O;cases h;exact .done O
open Classical in
noncomputable def Qx {Y ρ:Type}(body:Y->O_ (Y⊕ρ))(s:Y):O_ ρ:=match loopN body 5000 s with|some r=>X r|none=>if h:∃r,Qb7 body s r then X h.choose else n_
def Qd8 {Y ρ:Type}{body:Y->O_ (Y⊕ρ)}{s:Y}{r:ρ}:Qx body s=X r↔Qb7 body s r:=by
 unfold Qx;split
 ·rename_i r' hr;have O:=Qty _ _ hr;exact⟨λh=>by cases h;exact O,λh=>congrArg X (O.det h)⟩
 constructor
 ·intro h;split at h
  ·rename_i hx;cases h;exact hx.choose_spec
  cases h
 intro h;rw[dif_pos ⟨r,h⟩];exact congrArg X ((Exists.choose_spec (⟨r,h⟩:∃r,Qb7 body s r)).det h)
def Wi {Y ρ:Type}(body:Y->O_ (Y⊕ρ))(s:Y):
  Qx body s=(body s).bind λx=>match x with | .inl s'=>Qx body s' | .inr r=>X r:=by
 apply Option.ext;intro r;rw[Qd8];constructor
 ·intro h;cases h with|done h=>simp[h]|next h h'=>simp[h,Qd8.2 h']
 intro h;cases O:body s with
 |none=>simp[O]at h|some x=>
  cases x with|inl s'=>simp[O]at h;exact .next O (Qd8.1 h)|inr r'=>simp[O]at h;subst h;exact .done O
def ZF {Y ρ:Type}{body:Y->O_ (Y⊕ρ)}(I:Y->Prop)(μ:Y->Nat)(h:ρ->Prop)
  (round:∀s,I s->(∃O,body s=X (.inl O)/\I O/\μ O<μ s)\/∃r,body s=X (.inr r)/\h r):
  ∀s,I s->∃r,Qx body s=X r/\h r:=by
 have key:∀n s,μ s=n->I s->∃r,Qx body s=X r/\h r:=by
  intro n
  induction n using Nat.strongRecOn with
  |_ n ih=>
   intro s hn hI;rcases round s hI with⟨O,hb,hI',hlt⟩|⟨r,hb,hp⟩
   ·obtain⟨r,hr,hp⟩:=ih (μ O) (hn▸hlt) O rfl hI';exact⟨r,by rw[Wi,hb];exact hr,hp⟩
   exact⟨r,by rw[Wi,hb];rfl,hp⟩
 exact λs hI=>key _ s rfl hI
def Qiz {P:Program}{ro:O_ Nat}{ρ:Operand->Value}{o:Oper}{w w':World}{v:Value}(h:(execOp ρ o).run P w=.ok (.value v) w'):(o.semAt ro ρ).run P w=.ok (.value v) w':=by
 have O:∀c,o.op≠.defer c:=λc e=>by
  simp only[execOp,e,Xh]at h;cases hr:(resolve ρ c o.type).run P w<;>rw[hr]at h<;>simp[Result.andThen]at h
 rwa[Oper.semAt_eq _ _ _ O]
def QxA {P:Program}{ro:O_ Nat}{ρ:Operand->Value}{o:Oper}{w w':World}(h:(execOp ρ o).run P w=.ok .skip w'):(o.semAt ro ρ).run P w=.ok .skip w':=by
 have O:∀c,o.op≠.defer c:=λc e=>by
  simp only[execOp,e,Xh]at h;cases hr:(resolve ρ c o.type).run P w<;>rw[hr]at h<;>simp[Result.andThen]at h
 rwa[Oper.semAt_eq _ _ _ O]
def Qj8 {P:Program}{ro:O_ Nat}{ρ:Operand->Value}{o:Oper}{w w':World}{f:FuncId}{xs:Array Value}(h:(execOp ρ o).run P w=.ok (.enter f xs) w'):(o.semAt ro ρ).run P w=.ok (.enter f xs) w':=by
 have O:∀c,o.op≠.defer c:=λc e=>by
  simp only[execOp,e,Xh]at h;cases hr:(resolve ρ c o.type).run P w<;>rw[hr]at h<;>simp[Result.andThen]at h
 rwa[Oper.semAt_eq _ _ _ O]
def QiA {C:Xs}{n:Nat}{P:Program}{f:FuncId}{args:Array Value}{w:World}{R:Ending->World->Prop}(h:Calls P f args w R):CallsIn C.F n P f args w R:=
 (callsIn_wide (n:=n)).2 h
def up (C:Xs)(Q:Exit->St->Prop):Exit->Act->World->Prop:=λe a w=>∃Y,Q e Y/\R C Y a w
def Yz (P:Program)(C:Xs)(c:Code)(Y:St)(Q:Exit->St->Prop):Prop:=∀a w,R C Y a w->c.wpIn C.F 0 P (up C Q) a w
def QgT (K:St->Prop)(Q:Exit->St->Prop):Exit->St->Prop
 |.normal,Y=>K Y|e,Y=>Q e Y
def Qb8 (id:Nat)(Q:Exit->St->Prop):Exit->St->Prop
 |.exit h,Y=>bif Nat.beq h id then Q .normal Y else Q (.exit h) Y|e,Y=>Q e Y
section
variable {P:Program}{C:Xs}{Y:St}{Q:Exit->St->Prop}
def Yz.mono {c:Code}{O:Exit->St->Prop}(h:Yz P C c Y Q)(hq:∀e Y,Q e Y->O e Y):Yz P C c Y O:=
 λa w hR=>wpIn_mono (h a w hR) λe a w ⟨Y,h1,h2⟩=>⟨Y,hq e Y h1,h2⟩
def Yz.seq {x y:Code}(h:Yz P C x Y (QgT (λσ'=>Yz P C y σ' Q) Q)):Yz P C (.seq x y) Y Q:=by
 intro a w hR;refine wpIn_seq (wpIn_mono (h a w hR) ?_);rintro e a' w' ⟨σ',hq,O⟩;cases e with|normal=>exact hq a' w' O|_=>exact⟨σ',hq,O⟩
def Yz.cond_true {c:Operand}{x y:Code}(hc:Y.opd c=X (.b t_))(h:Yz P C x Y Q):Yz P C (.cond c x y) Y Q:=
 λa w O=>let ⟨_,hr⟩:=O;wpIn_cond_true (hr.opd hc).b_inv (h a w O)
def Yz.cond_false {c:Operand}{x y:Code}(hc:Y.opd c=X (.b f_))(h:Yz P C y Y Q):Yz P C (.cond c x y) Y Q:=
 λa w O=>let ⟨_,hr⟩:=O;wpIn_cond_false (hr.opd hc).b_inv (h a w O)
def Yz.condT {c:Operand}{x y:Code}{t:Bool}(O:Y.opd c=X (.b t))(ht:t=t_)(h:Yz P C x Y Q):Yz P C (.cond c x y) Y Q:=
 Yz.cond_true (ht▸O) h
def Yz.condF {c:Operand}{x y:Code}{t:Bool}(O:Y.opd c=X (.b t))(ht:t=f_)(h:Yz P C y Y Q):Yz P C (.cond c x y) Y Q:=
 Yz.cond_false (ht▸O) h
def Yz.skip (h:Q .normal Y):Yz P C .skip Y Q:=λa w O=>wpIn_skip ⟨Y,h,O⟩
def Yz.exit {id:Nat}(h:Q (.exit id) Y):Yz P C (.exit id) Y Q:=λa w O=>wpIn_exit ⟨Y,h,O⟩
def Yz.ret (h:Q .ret Y):Yz P C .ret Y Q:=λa w O=>wpIn_ret ⟨Y,h,O⟩
def Yz.label {l:Nat}(h:Q .normal Y):Yz P C (.label l) Y Q:=λa w O=>wpIn_label ⟨Y,h,O⟩
def Yz.block {id:Nat}{c:Code}(h:Yz P C c Y (Qb8 id Q)):Yz P C (.block id c) Y Q:=by
 intro a w hR;refine wpIn_block (wpIn_mono (h a w hR) ?_);rintro e a' w' ⟨σ',hq,O⟩;cases e with
 |exit id'=>
  simp only[Exit.inBlock,Qb8]at *;cases hb:Nat.beq id' id with|true=>rw[hb]at hq;rw[if_pos (Yr hb)];exact⟨σ',hq,O⟩|false=>rw[hb]at hq;rw[if_neg (λe=>by subst e;simp at hb)];exact⟨σ',hq,O⟩
 |_=>exact⟨σ',hq,O⟩
def Yz.weaken {c:Code}{σ':St}(h:∀a w,R C Y a w->R C σ' a w)(k:Yz P C c σ' Q):Yz P C c Y Q:=λa w O=>k a w (h a w O)
def QAc {id O:Nat}(he:Nat.beq O id=t_)(h:Q .normal Y):Qb8 id Q (.exit O) Y:=by
 show(bif Nat.beq O id then _ else _);rw[he];exact h
def QAd {id O:Nat}(he:Nat.beq O id=f_)(h:Q (.exit O) Y):Qb8 id Q (.exit O) Y:=by
 show(bif Nat.beq O id then _ else _);rw[he];exact h
def Yz.seqK {x y:Code}(K:St->Prop)(O:Yz P C x Y (QgT K Q))(hy:∀σ',K σ'->Yz P C y σ' Q):Yz P C (.seq x y) Y Q:=
 Yz.seq (O.mono λe σ' h=>by cases e<;>first|exact hy σ' h|exact h)
def Yz.cut {x:Code}(K:St->Prop)(O:Yz P C x Y (QgT K Q))(hy:∀σ',K σ'->Q .normal σ'):Yz P C x Y Q:=
 O.mono λe σ' h=>by cases e<;>first|exact hy σ' h|exact h
def Yz.loop {τ ρ:Type}{body:τ->O_ (τ⊕ρ)}{c:Code}(E:τ->St->Prop)(O:ρ->Exit->St->Prop){s0:τ}{r:ρ}
  (round:∀s o Y,E s Y->body s=X o->Yz P C c Y (QgT (λσ'=>∃s',o=.inl s'/\E s' σ') (λe σ'=>∃r,o=.inr r/\O r e σ')))
  (hr:Qb7 body s0 r) (h0:E s0 Y) (hQ:∀e σ',O r e σ'->Q e σ'):Yz P C (.loop c) Y Q:=by
 have key:∃n,∀Y a w,E s0 Y->R C Y a w->Code.roundsIn C.F 0 P c (up C Q) n a w:=by
  clear h0
  induction hr with
  |done hb=>
   refine⟨1,λY a w hE hR=>?_⟩;rw[roundsIn_succ];refine wpIn_mono (round _ _ Y hE hb a w hR) ?_;rintro e a' w' ⟨σ',hq,hR'⟩;cases e with
   |normal=>obtain⟨s',h,_⟩:=hq;cases h
   |_=>obtain⟨r,h,hp⟩:=hq;cases h;exact⟨σ',hQ _ _ hp,hR'⟩
  |next hb hn ih=>
   obtain⟨n,hn⟩:=ih hQ;refine⟨n+1,λY a w hE hR=>?_⟩;rw[roundsIn_succ];refine wpIn_mono (round _ _ Y hE hb a w hR) ?_;rintro e a' w' ⟨σ',hq,hR'⟩;cases e with
   |normal=>obtain⟨s',h,hE'⟩:=hq;cases h;exact hn σ' a' w' hE' hR'
   |_=>obtain⟨r,h,hp⟩:=hq;cases h
 obtain⟨n,hn⟩:=key;exact λa w hR=>wpIn_loop_rounds n (hn Y a w h0 hR)
end
def AL (P:Program)(C:Xs)(ops:Array Oper)(l:L_ Oper)(Y:St)(Q:Exit->St->Prop):Prop:=∀a w,R C Y a w->wpListIn C.F 0 P ops (up C Q) l a w
def Stp (P:Program)(C:Xs)(o:Oper)(Y σ':St):Prop:=
 ∀a w,R C Y a w->∀(next:Act->World->Prop) (Q:Exit->Act->World->Prop),(∀h w',R C σ' h w'->next h w')->o.wpIn C.F 0 P a w next Q
section
variable {P:Program}{C:Xs}{ops:Array Oper}{Y σ':St}{Q:Exit->St->Prop}{o:Oper}{rest:L_ Oper}
def Yz.region {id:Nat}(h:AL P C ops ops.toList Y Q):Yz P C (.region id ops f_) Y Q:=by
 intro a w O;exact wpIn_region_list (h a w O)
def AL.nil (h:Q .normal Y):AL P C ops [] Y Q:=λa w O=>⟨Y,h,O⟩
def AL.weaken (h:∀a w,R C Y a w->R C σ' a w)(k:AL P C ops rest σ' Q):AL P C ops rest Y Q:=λa w O=>k a w (h a w O)
def AL.cons (hg:o.guard=n_)(h:Stp P C o Y σ')(k:AL P C ops rest σ' Q):AL P C ops (o::rest) Y Q:=by
 intro a w hR;simp only[wpListIn,Region.wanted,hg,if_true];exact(h a w hR _ _ λa' w' O=>k a' w' O)
def R.yielded {a:Act}{w:World}(hR:R C Y a w){j d:Nat}{t:Bool}(hj:((ops[j]?).bind (·.dst))=X d)(hv:look Y.fr d=X (.b t)):yielded ops a.tmps j=X t:=by
 obtain⟨Z,hr⟩:=hR;obtain⟨x,O,h⟩:=hr.frame d _ hv;rw[h.b_inv]at O;simp[Go.yielded,hj,O]
def AL.consG {j d:Nat}{t:Bool}(hg:o.guard=X (j,t))(hj:((ops[j]?).bind (·.dst))=X d)(hv:look Y.fr d=X (.b t))(h:Stp P C o Y σ')(k:AL P C ops rest σ' Q):
  AL P C ops (o::rest) Y Q:=by
 intro a w hR;simp only[wpListIn,Region.wanted,hg,hR.yielded hj hv];simp only[beq_self_eq_true,if_true];exact(h a w hR _ _ λa' w' O=>k a' w' O)
def AL.consGT {j d:Nat}{c t:Bool}(hg:o.guard=X (j,t))(hj:((ops[j]?).bind (·.dst))=X d)(hv:look Y.fr d=X (.b c))(O:c=t)(h:Stp P C o Y σ')(k:AL P C ops rest σ' Q):
  AL P C ops (o::rest) Y Q:=AL.consG hg hj (O▸hv) h k
def AL.consN {j d t:Nat}{u:Bool}(O:o.guard=X (j,!u))(hj:((ops[j]?).bind (·.dst))=X d)(hv:look Y.fr d=X (.b u))(ho:o.dst=X t)(ht:t<C.n)
  (k:AL P C ops rest (Y.put t (.lit undef)) Q):AL P C ops (o::rest) Y Q:=by
 intro a w h;simp only[wpListIn,Region.wanted,O,h.yielded hj hv];rw[if_neg (by cases u<;>decide)];refine⟨λ_ _=>trivial,k _ _ ?_⟩;obtain⟨Z,hr⟩:=h;rw[ho];exact⟨Z,hr.put ht (.dat (.lit _))⟩
def AL.consN0 {j d:Nat}{u:Bool}(O:o.guard=X (j,!u))(hj:((ops[j]?).bind (·.dst))=X d)(hv:look Y.fr d=X (.b u))(ho:o.dst=n_)
  (k:AL P C ops rest Y Q):AL P C ops (o::rest) Y Q:=by
 intro a w h;simp only[wpListIn,Region.wanted,O,h.yielded hj hv];rw[if_neg (by cases u<;>decide)];refine⟨λ_ _=>trivial,k _ _ ?_⟩;rw[ho];exact h
def AL.consNT {j d t:Nat}{c u:Bool}(O:o.guard=X (j,u))(hj:((ops[j]?).bind (·.dst))=X d)(hv:look Y.fr d=X (.b c))(h:c=!u)(ho:o.dst=X t)(ht:B_ t C)
  (k:AL P C ops rest (Y.put t (.lit undef)) Q):AL P C ops (o::rest) Y Q:=
 AL.consN (u:=!u) (by rw[O];simp) hj (h▸hv) ho (JT ht) k
def AL.consNT0 {j d:Nat}{c u:Bool}(O:o.guard=X (j,u))(hj:((ops[j]?).bind (·.dst))=X d)(hv:look Y.fr d=X (.b c))(h:c=!u)(ho:o.dst=n_)
  (k:AL P C ops rest Y Q):AL P C ops (o::rest) Y Q:=
 AL.consN0 (u:=!u) (by rw[O];simp) hj (h▸hv) ho k
def R.unyielded {a:Act}{w:World}(hR:R C Y a w){j d:Nat}(hj:((ops[j]?).bind (·.dst))=X d)(hv:look Y.fr d=X (.lit undef)):Go.yielded ops a.tmps j=n_:=by
 obtain⟨Z,hr⟩:=hR;obtain⟨x,O,h⟩:=hr.frame d _ hv;rw[h.lit_inv]at O;simp[Go.yielded,hj,O,undef]
def AL.consU {j d t:Nat}{u:Bool}(O:o.guard=X (j,u))(hj:((ops[j]?).bind (·.dst))=X d)(hv:look Y.fr d=X (.lit undef))(ho:o.dst=X t)(ht:B_ t C)
  (k:AL P C ops rest (Y.put t (.lit undef)) Q):AL P C ops (o::rest) Y Q:=by
 intro a w h;simp only[wpListIn,Region.wanted,O,h.unyielded hj hv];rw[if_neg (by simp)];refine⟨λ_ _=>trivial,k _ _ ?_⟩;obtain⟨Z,hr⟩:=h;rw[ho];exact⟨Z,hr.put (JT ht) (.dat (.lit _))⟩
def AL.consU0 {j d:Nat}{u:Bool}(O:o.guard=X (j,u))(hj:((ops[j]?).bind (·.dst))=X d)(hv:look Y.fr d=X (.lit undef))(ho:o.dst=n_)
  (k:AL P C ops rest Y Q):AL P C ops (o::rest) Y Q:=by
 intro a w h;simp only[wpListIn,Region.wanted,O,h.unyielded hj hv];rw[if_neg (by simp)];refine⟨λ_ _=>trivial,k _ _ ?_⟩;rw[ho];exact h
def Stp.val (h:∀Z a w,RR C Z Y a w->∃x w' φ',(execOp a.eval o).run P w=.ok (.value x) w'/\RR C φ' σ' (a.put o.dst x) w'):Stp P C o Y σ':=by
 intro a w ⟨Z,hr⟩ next Q hn;obtain⟨x,w',φ',he,O⟩:=h Z a w hr;refine⟨λ_ _=>trivial,?_⟩;rw[Qiz he];exact hn _ _ ⟨φ',O⟩
def Stp.skp (h:∀Z a w,RR C Z Y a w->∃w' φ',(execOp a.eval o).run P w=.ok .skip w'/\RR C φ' σ' (a.put o.dst undef) w'):Stp P C o Y σ':=by
 intro a w ⟨Z,hr⟩ next Q hn;obtain⟨w',φ',he,O⟩:=h Z a w hr;refine⟨λ_ _=>trivial,?_⟩;rw[QxA he];exact hn _ _ ⟨φ',O⟩
end
section
variable {P:Program}{C:Xs}{Y:St}{o:Oper}
def Xv {a b:Nat}(h:Nat.ble (a+1) b=t_):a<b:=JT h
def Stp.same {d:Nat}{v:V}(hd:o.dst=X d)(hn:B_ d C)
  (h:∀Z a w,RR C Z Y a w->∃x,(execOp a.eval o).run P w=.ok (.value x) w/\QR Z (Xc C Z w) w x v):Stp P C o Y (Y.put d v):=by
 refine Stp.val λZ a w O=>?_;obtain⟨x,he,hx⟩:=h Z a w O;exact⟨x,w,Z,he,by rw[hd];exact O.put (Xv hn) hx⟩
def Stp.move {x:Operand}{d:Nat}{v:V}(ho:o.op=.move x)(h:o.dst=X d)(O:B_ d C)(hx:Y.opd x=X v):Stp P C o Y (Y.put d v):=
 Stp.same h O λZ a w hr=>⟨a.eval x,by simp[execOp,ho],hr.opd hx⟩
def Stp.assign {x:Operand}{d:Nat}{v:V}(ho:o.op=.assign x)(h:o.dst=X d)(O:B_ d C)(hx:Y.opd x=X v):Stp P C o Y (Y.put d v):=
 Stp.same h O λZ a w hr=>⟨a.eval x,by simp[execOp,ho],hr.opd hx⟩
def Stp.pickT {c x y:Operand}{d:Nat}{t:Bool}{v:V}(ho:o.op=.pick c x y)(hd:o.dst=X d)(hn:B_ d C)(O:Y.opd c=X (.b t))(ht:t=t_)
  (hx:Y.opd x=X v):Stp P C o Y (Y.put d v):=
 Stp.same hd hn λZ a w h=>⟨a.eval x,by simp[execOp,ho,(h.opd O).b_inv,asBool,ht],h.opd hx⟩
def Stp.pickF {c x y:Operand}{d:Nat}{t:Bool}{v:V}(ho:o.op=.pick c x y)(hd:o.dst=X d)(hn:B_ d C)(O:Y.opd c=X (.b t))(ht:t=f_)
  (hx:Y.opd y=X v):Stp P C o Y (Y.put d v):=
 Stp.same hd hn λZ a w h=>⟨a.eval y,by simp[execOp,ho,(h.opd O).b_inv,asBool,ht],h.opd hx⟩
def Qtz (op:BinOp)(k:IntKind)(a b:Int):O_ V:=
 match op with|.add=>X (.i k (k.wrap (a+b)))|.sub=>X (.i k (k.wrap (a-b)))|.mul=>X (.i k (k.wrap (a*b)))|.eql=>X (.b (a==b))|.neq=>X (.b (a != b))|.lss=>X (.b (decide (a<b)))|.leq=>X (.b (decide (a<=b)))|.gtr=>X (.b (decide (b<a)))|.geq=>X (.b (decide (b<=a)))|_=>n_
def Stp.bin {op:BinOp}{x y:Operand}{T U d:Nat}{k:IntKind}{m n:Int}{v:V}(ho:o.op=.binOp op T x y U)(hd:o.dst=X d)(hn:B_ d C)
  (hx:Y.opd x=X (.i k m)) (hy:Y.opd y=X (.i k n)) (hv:Qtz op k m n=X v):Stp P C o Y (Y.put d v):=by
 refine Stp.same hd hn λZ a w hr=>?_;have h:=(hr.opd hx).i_inv;have O:=(hr.opd hy).i_inv;cases op<;>simp only[Qtz,Option.some.injEq,reduceCtorEq]at hv<;>subst hv <;>
  first
  |exact⟨.int k _,by simp[execOp,ho,h,O,eqGuard,binOp,Op.intArith],.dat (.i _ _)⟩
  |exact⟨.bool _,by simp[execOp,ho,h,O,eqGuard,binOp,Op.intCmp],.dat (.b _)⟩
def Stp.divi {op:BinOp}{x y:Operand}{T U d:Nat}{k:IntKind}{m n:Int}{v:V}(ho:o.op=.binOp op T x y U)(hd:o.dst=X d)(hn:B_ d C)
  (hx:Y.opd x=X (.i k m)) (hy:Y.opd y=X (.i k n)) (O:n≠0) (hv:(op=.quo/\v=.i k (k.wrap (m.tdiv n)))\/(op=.rem/\v=.i k (m.tmod n))):Stp P C o Y (Y.put d v):=by
 refine Stp.same hd hn λZ a w h=>?_;have h1:=(h.opd hx).i_inv;have h2:=(h.opd hy).i_inv;rcases hv with⟨rfl,rfl⟩|⟨rfl,rfl⟩ <;>
  exact⟨.int k _,by simp[execOp,ho,h1,h2,eqGuard,binOp,Op.intDiv,O],.dat (.i _ _)⟩
def Stp.not {x:Operand}{T d:Nat}{t:Bool}(ho:o.op=.unOp .not T x)(h:o.dst=X d)(O:B_ d C)(hx:Y.opd x=X (.b t)):
  Stp P C o Y (Y.put d (.b (!t))):=
 Stp.same h O λZ a w hr=>⟨.bool (!t),by simp[execOp,ho,(hr.opd hx).b_inv,Op.unary],.dat (.b _)⟩
def Stp.neg {x:Operand}{T d:Nat}{k:IntKind}{m:Int}(ho:o.op=.unOp .neg T x)(h:o.dst=X d)(O:B_ d C)(hx:Y.opd x=X (.i k m)):
  Stp P C o Y (Y.put d (.i k (k.wrap (0-m)))):=
 Stp.same h O λZ a w hr=>⟨.int k _,by simp[execOp,ho,(hr.opd hx).i_inv,Op.unary,Op.intArith],.dat (.i _ _)⟩
def Ux (P:Program)(t:TypeId):O_ Bool:=
 match P.underlying t with|some (.struct _)|some (.array _ _)=>X t_|some _=>X f_|none=>n_
def Rn (P:Program)(t:TypeId)(f:Nat):O_ Nat:=
 match P.underlying t with
 |some (.struct fs)=>match fs[f]? with
  |some h=>match P.info? h.type with
   |some i=>if i.size=0 then n_ else X h.offset
   |none=>n_
  |none=>n_
 |_=>n_
def XZ (P:Program)(t:TypeId):O_ (TypeId×Nat×Nat):=
 match P.underlying t with
 |some (.slice e)=>match P.info? e with|some i=>X (e,i.size,i.bytes)|none=>n_
 |_=>n_
def SC (P:Program)(t:TypeId):O_ (Nat×Nat):=
 match P.underlying t with
 |some (.array n e)=>match P.info? e with|some i=>X (n,i.size)|none=>n_
 |_=>n_
def Xm (P:Program)(t:TypeId):O_ (L_ V):=
 match P.info? t with
 |some i=>match i.zero with|some z=>X (z.cells.toList.map Bh)|none=>n_
 |none=>n_
def BA (P:Program)(t:TypeId):O_ Nat:=(P.info? t).map (·.size)
def Qd9 {t:TypeId}{g:Bool}(h:Ux P t=X g)(w:World):(isAgg t).run P w=.ok g w:=by
 unfold Ux at h;unfold isAgg;split at h<;>simp_all[underlying]
def QgU {t:TypeId}{n:Nat}(h:BA P t=X n)(w:World):(sizeOf t).run P w=.ok n w:=by
 unfold BA at h;cases hi:P.info? t with|none=>simp[hi]at h|some i=>simp[hi]at h;simp[sizeOf,typeInfo,hi,h]
def V.cells : V->L_ V
 |.agg h=>h|v=>[v]
def QR.oneCell {Z:Nat->O_ QV}{I:Nat->Prop}{w:World}{x:Value}{v:V}(h:QR Z I w x v)(O:v.one=t_):x.cells=#[x]/\x.oneCell'=t_:=by
 cases h with
 |dat h=>cases h with
  |lit=>cases x<;>first|exact⟨rfl,rfl⟩|simp[V.one]at O
  |_=>first|exact⟨rfl,rfl⟩|simp[V.one]at O
 |_=>first|exact⟨rfl,rfl⟩|simp[V.one]at O
def QR.cells {Z:Nat->O_ QV}{I:Nat->Prop}{w:World}{x:Value}{v:V}(h:QR Z I w x v)(O:v.one=t_\/∃cs,v=.agg cs):
  x.cells.size=v.cells.length/\∀(j:Nat) y u,x.cells[j]? = X y->v.cells[j]? = X u->QR Z I w y u:=by
 rcases O with O|⟨cs,rfl⟩
 ·have hc:=(h.oneCell O).1;have hvc:v.cells=[v]:=by cases v<;>first|rfl|simp[V.one]at O
  rw[hc,hvc];refine⟨rfl,λj y u hy hu=>?_⟩;cases j with|zero=>simp at hy hu;subst hy;subst hu;exact h|succ j=>simp at hy
 obtain⟨xs,rfl,hs,hr⟩:=h.agg_inv;exact⟨hs,hr⟩
end
def ext (Z:Nat->O_ QV)(o:Nat)(B:QV):Nat->O_ QV:=λk=>if k=o then X B else Z k
def Xb (Z:Nat->O_ QV)(o:Nat)(B:QV):ext Z o B o=X B:=by simp[ext]
def QP {Z:Nat->O_ QV}{o k:Nat}(B:QV)(h:k≠o):ext Z o B k=Z k:=by simp[ext,h]
def St.look_set_same (Y:St)(o:Nat)(ob:Ob):look (Y.set o ob).hp o=X ob:=QB _ _ _
def St.look_set_other (Y:St){o k:Nat}(ob:Ob)(h:o≠k):look (Y.set o ob).hp k=look Y.hp k:=Qz _ _ h
def Xs.slot (C:Xs){d:Nat}(h:B_ d C):d<639:=by
 have:=JT h;have:=C.small;omega
section
variable {C:Xs}{Z:Nat->O_ QV}{Y:St}{a:Act}{w:World}
def Qd7.set {φ0:Nat->O_ QV}{b:Nat}{ob ob':Ob}(h:Qd7 φ0 Z Y.hp)(hb:look Y.hp b=X ob):Qd7 φ0 Z (Y.set b ob').hp:=h.sub λo ob2 O=>by
 by_cases e:o=b
 ·subst e;exact⟨_,hb⟩
 rw[Y.look_set_other _ (Ne.symm e)]at O;exact⟨_,O⟩
def RR.none_of_look (h:RR C Z Y a w){o:Nat}(ho:look Y.hp o=n_):Z o=n_:=by
 cases hb:Z o with|none=>rfl|some B=>obtain⟨ob,O⟩:=h.dom o B hb;rw[ho]at O;cases O
def Qb3 {b cap z k:Nat}(h:({ b:=b,cap:=cap,z:=z }:QV).has k):k=b:=by
 rcases h with h|h
 ·exact h
 cases h
def RR.imm_alloc (h:RR C Z Y a w)(o cap z:Nat)(obj:Obj)(hn:Z o=n_):
  ∀k,Xc C Z w k->Xc C (ext Z o ⟨w.heap.size,cap,z,[],0⟩) (w.alloc obj) k/\(w.alloc obj).heap[k]? = w.heap[k]? := by
 intro k ⟨h1,h2,h3⟩;refine⟨⟨by simp;omega,h2,λo' B O=>?_⟩,Below.heap_alloc w obj k h1⟩;by_cases ho:o'=o
 ·subst ho;rw[Xb]at O;cases O;intro hh;have:=Qb3 hh;omega
 rw[QP _ ho]at O;exact h3 o' B O
def RR.mono_ext (h:RR C Z Y a w){o:Nat}(B:QV)(hn:Z o=n_):∀o' B',Z o'=X B'->ext Z o B o'=X B':=by
 intro o' B' O;rw[QP _ (λe=>by subst e;rw[hn]at O;cases O)];exact O
def RR.alloc (h:RR C Z Y a w){o cap z:Nat}(ho:look Y.hp o=n_)(hlt:o<639){ob:Ob}{obj:Obj}
  (hrep:Jg (ext Z o ⟨w.heap.size,cap,z,[],0⟩) (Xc C (ext Z o ⟨w.heap.size,cap,z,[],0⟩) (w.alloc obj)) (w.alloc obj) ⟨w.heap.size,cap,z,[],0⟩ ob):
  RR C (ext Z o ⟨w.heap.size,cap,z,[],0⟩) (Y.set o ob) a (w.alloc obj):=by
 have hn:=h.none_of_look ho;have hI:=h.imm_alloc o cap z obj hn;have hm:=h.mono_ext ⟨w.heap.size,cap,z,[],0⟩ hn;refine⟨h.os,h.tape,h.output,by have:=h.size;simp;omega,λk h1 h2=>?_,?_,?_,?_,?_,⟨?_,λo' ob' B hge ho' O=>by rw[QP _ (by omega)];exact h.stay.2 o' ob' B hge (by rwa[Y.look_set_other _ (by omega)]at ho') O⟩,h.tmps,h.defers.mono hI,?_,?_⟩
 ·rw[Below.heap_alloc w obj k (AE h1 h.size)];exact h.kept k h1 h2
 ·intro o1 o2 B1 B2 k h1 h2 b1 b2;by_cases e1:o1=o<;>by_cases e2:o2=o
  ·rw[e1,e2]
  ·subst e1;rw[Xb]at h1;cases h1;rw[QP _ e2]at h2;have:=(h.lt o2 B2 k h2 b2).1;have:=Qb3 b1;omega
  ·subst e2;rw[Xb]at h2;cases h2;rw[QP _ e1]at h1;have:=(h.lt o1 B1 k h1 b1).1;have:=Qb3 b2;omega
  rw[QP _ e1]at h1;rw[QP _ e2]at h2;exact h.inj o1 o2 B1 B2 k h1 h2 b1 b2
 ·intro o' B O;by_cases e:o'=o
  ·subst e;exact⟨ob,Y.look_set_same _ _⟩
  rw[QP _ e]at O;obtain⟨ob',h'⟩:=h.dom o' B O;exact⟨ob',by rw[Y.look_set_other _ (Ne.symm e)];exact h'⟩
 ·intro o' B k O hk;by_cases e:o'=o
  ·subst e;rw[Xb]at O;cases O;rw[Qb3 hk];exact⟨by simp,λhlt=>absurd h.size (by omega)⟩
  rw[QP _ e]at O;have:=h.lt o' B k O hk;exact⟨by simp;omega,this.2⟩
 ·intro o' B k O hk hlt;by_cases e:o'=o
  ·subst e;rw[Xb]at O;cases O;rw[Qb3 hk];exact h.size
  rw[QP _ e]at O;exact h.new o' B k O hk hlt
 ·intro o' B hge O;rw[QP _ (by omega)]at O;exact h.stay.1 o' B hge O
 ·intro t v hv;obtain⟨x,hx,hr⟩:=h.frame t v hv;exact⟨x,hx,hr.mono hm hI⟩
 intro o' ob' ho';by_cases e:o'=o
 ·subst e;rw[Y.look_set_same]at ho';cases ho';exact .inl ⟨_,Xb _ _ _,hrep⟩
 rw[Y.look_set_other _ (Ne.symm e)]at ho';rcases h.heap o' ob' ho' with⟨B,O,hr⟩|⟨h1,h2⟩
 ·exact .inl ⟨B,by rw[QP _ e];exact O,hr.mono hm hI λk hk=>Below.heap_alloc w obj _ (h.lt o' B k O hk).1⟩
 exact .inr ⟨by rw[QP _ e];exact h1,h2⟩
def RR.change (h:RR C Z Y a w){o:Nat}{B:QV}(hB:Z o=X B){B':QV}(hb:B'.b=B.b/\B'.cap=B.cap/\B'.z=B.z/\B'.off=B.off)(hst:639<=o->B'=B){ob:Ob}{w':World}(ho:w'.os=w.os)(ht:w'.tape=w.tape)(hu:w'.output=w.output)
  (hs:w.heap.size<=w'.heap.size) (hk:∀k,k<w.heap.size->¬B.has k->w'.heap[k]? = w.heap[k]?) (hB':∀k,B'.has k->k<w'.heap.size/\(B.has k\/w.heap.size<=k))
  (hrep:Jg (ext Z o B') (Xc C (ext Z o B') w') w' B' ob):RR C (ext Z o B') (Y.set o ob) a w':=by
 have hI:∀k,Xc C Z w k->Xc C (ext Z o B') w' k/\w'.heap[k]? = w.heap[k]? := λk hk'=>by
  refine⟨⟨AE hk'.1 hs,hk'.2.1,λo' B1 O=>?_⟩,hk k hk'.1 (hk'.2.2 o B hB)⟩;by_cases e:o'=o
  ·subst e;rw[Xb]at O;cases O;intro hh;rcases(hB' k hh).2 with h2|h2
   ·exact hk'.2.2 o' B hB h2
   have:=hk'.1;omega
  rw[QP _ e]at O;exact hk'.2.2 o' B1 O
 have hrepV:∀{x:Value} {v:V},QR Z (Xc C Z w) w x v->QR (ext Z o B') (Xc C (ext Z o B') w') w' x v:=by
  intro x v hr
  induction hr with
  |dat d=>exact .dat (d.mono hI)|own0 p=>exact .own0 p|own p n B1 O hn=>
   by_cases e:p=o
   ·subst e;rw[hB]at O;cases O;have:=QR.own (Z:=ext Z p B') (I:=Xc C (ext Z p B') w') (w:=w') p n B' (Xb _ _ _) (by rw[hb.2.1];exact hn);rwa[hb.1,hb.2.1,hb.2.2.2]at this
   exact .own p n B1 (by rw[QP _ e];exact O) hn
  |tl0 p k c a=>exact .tl0 p k c a|tl p k n c B1 O=>
   by_cases e:p=o
   ·subst e;rw[hB]at O;cases O;have:=QR.tl (Z:=ext Z p B') (I:=Xc C (ext Z p B') w') (w:=w') p k n c B' (Xb _ _ _);rwa[hb.1,hb.2.2.2]at this
   exact .tl p k n c B1 (by rw[QP _ e];exact O)
  |loc p i d B1 O=>
   by_cases e:p=o
   ·subst e;rw[hB]at O;cases O;have:=QR.loc (Z:=ext Z p B') (I:=Xc C (ext Z p B') w') (w:=w') p i d B' (Xb _ _ _);rwa[hb.1,hb.2.2.1,hb.2.2.2]at this
   exact .loc p i d B1 (by rw[QP _ e];exact O)
  |map p B1 O=>
   by_cases e:p=o
   ·subst e;rw[hB]at O;cases O;have:=QR.map (Z:=ext Z p B') (I:=Xc C (ext Z p B') w') (w:=w') p B' (Xb _ _ _);rwa[hb.1]at this
   exact .map p B1 (by rw[QP _ e];exact O)
  |agg xs cs hs _ ih=>exact .agg xs cs hs ih|tup xs cs hs _ ih=>exact .tup xs cs hs ih|ifc t x v _ ih=>exact .ifc t x v ih|clo fn xs ys vs us O h2 _ _ ih1 ih2=>exact .clo fn xs ys vs us O h2 ih1 ih2
 have old:∀o' B1,o'≠o->Z o'=X B1->∀k,B1.has k->w'.heap[k]? = w.heap[k]? := λo' B1 hne O k hk1=>
  hk k (h.lt o' B1 k O hk1).1 λh2=>hne (h.inj o' o B1 B k O hB hk1 h2)
 refine⟨ho.trans h.os,ht.trans h.tape,hu.trans h.output,Yx h.size hs,λk O h2=>?_,?_,?_,?_,?_,⟨?_,λo' ob' B1 hge ho' O=>by
  by_cases e:o'=o
  ·subst e;rw[Xb,hst hge];have:=h.stay.1 o' B hge hB;rw[O]at this;exact this.symm
  rw[QP _ e];exact h.stay.2 o' ob' B1 hge (by rwa[Y.look_set_other _ (Ne.symm e)]at ho') O⟩,h.tmps,h.defers.mono hI,?_,?_⟩
 ·refine(hk k (AE O h.size) λhh=>h2 ((h.lt o B k hB hh).2 O)).trans (h.kept k O h2)
 ·intro o1 o2 B1 B2 k O h2 b1 b2;by_cases e1:o1=o<;>by_cases e2:o2=o
  ·rw[e1,e2]
  ·subst e1;rw[Xb]at O;cases O;rw[QP _ e2]at h2;rcases(hB' k b1).2 with h3|h3
   ·exact h.inj o1 o2 B B2 k hB h2 h3 b2
   have:=(h.lt o2 B2 k h2 b2).1;omega
  ·subst e2;rw[Xb]at h2;cases h2;rw[QP _ e1]at O;rcases(hB' k b2).2 with h3|h3
   ·exact h.inj o1 o2 B1 B k O hB b1 h3
   have:=(h.lt o1 B1 k O b1).1;omega
  rw[QP _ e1]at O;rw[QP _ e2]at h2;exact h.inj o1 o2 B1 B2 k O h2 b1 b2
 ·intro o' B1 O;by_cases e:o'=o
  ·subst e;exact⟨ob,Y.look_set_same _ _⟩
  rw[QP _ e]at O;obtain⟨ob',h'⟩:=h.dom o' B1 O;exact⟨ob',by rw[Y.look_set_other _ (Ne.symm e)];exact h'⟩
 ·intro o' B1 k O hk1;by_cases e:o'=o
  ·subst e;rw[Xb]at O;cases O;refine⟨(hB' k hk1).1,λhlt=>?_⟩;rcases(hB' k hk1).2 with h3|h3
   ·exact(h.lt o' B k hB h3).2 hlt
   exact absurd h.size (by omega)
  rw[QP _ e]at O;have:=h.lt o' B1 k O hk1;exact⟨by omega,this.2⟩
 ·intro o' B1 k O hk1 hlt;by_cases e:o'=o
  ·subst e;rw[Xb]at O;cases O;rcases(hB' k hk1).2 with h3|h3
   ·exact h.new o' B k hB h3 hlt
   have:=h.size;omega
  rw[QP _ e]at O;exact h.new o' B1 k O hk1 hlt
 ·intro o' B1 hge O;by_cases e:o'=o
  ·subst e;rw[Xb]at O;cases O;rw[hst hge];exact h.stay.1 o' B hge hB
  rw[QP _ e]at O;exact h.stay.1 o' B1 hge O
 ·intro t v hv;obtain⟨x,hx,hr⟩:=h.frame t v hv;exact⟨x,hx,hrepV hr⟩
 intro o' ob' ho';by_cases e:o'=o
 ·subst e;rw[Y.look_set_same]at ho';cases ho';exact .inl ⟨B',Xb _ _ _,hrep⟩
 rw[Y.look_set_other _ (Ne.symm e)]at ho';rcases h.heap o' ob' ho' with⟨B1,O,hr⟩|⟨O,h2⟩
 ·refine .inl ⟨B1,by rw[QP _ e];exact O,?_⟩;cases ob' with
  |var vs=>
   obtain⟨cs,E,a1,a2,a0,a3⟩:=hr;exact⟨cs,E,(old o' B1 e O _ B1.self).trans a1,a2,a0,λj x v hx hv=>hrepV (a3 j x v hx hv)⟩
  |lp l K vs q=>
   obtain⟨tmps,D,rfl,a1,a2,a3,a4⟩:=hr;exact⟨tmps,D,rfl,a1,(old o' B1 e O _ B1.self).trans a2,a3,λj x v hx hv=>hrepV (a4 j x v hx hv)⟩
  |arr z rs=>exact Yc.mono hI (old o' B1 e O _ B1.self) hr|map l=>exact Dz.mono hI (old o' B1 e O _ B1.self) hr|grp z l lk=>exact KP.mono hI (old o' B1 e O) hr|mapX bm clock L l=>exact EI.mono hI (old o' B1 e O _ B1.self) hr|itr bm since seen cur=>exact ZC.mono (old o' B1 e O _ B1.self) hr|itr0=>obtain⟨s,c,h3⟩:=hr;exact⟨s,c,(old o' B1 e O _ B1.self).trans h3.1,h3.2⟩
  |tbl A z rs=>exact En.mono hI (old o' B1 e O) hr|nst x v=>exact ZD.mono (old o' B1 e O) hr|scr D H=>exact ZE.mono (old o' B1 e O) hr
 exact .inr ⟨by rw[QP _ e];exact O,h2⟩
def QrJ {Z:Nat->O_ QV}{o:Nat}{B:QV}(h:Z o=X B):ext Z o B=Z:=by
 funext k;by_cases e:k=o
 ·subst e;rw[Xb,h]
 rw[QP _ e]
def RR.write (h:RR C Z Y a w){o:Nat}{B:QV}(hB:Z o=X B){ob:Ob}{w':World}(ho:w'.os=w.os)(ht:w'.tape=w.tape)(hu:w'.output=w.output)
  (hs:w'.heap.size=w.heap.size) (hk:∀k,k≠B.b->w'.heap[k]? = w.heap[k]?) (O:Jg Z (Xc C Z w') w' B ob):RR C Z (Y.set o ob) a w':=by
 have:=h.change hB (B':=B) ⟨rfl,rfl,rfl,rfl⟩ (λ_=>rfl) (ob:=ob) (w':=w') ho ht hu (by omega) (λk _ hne=>hk k λe=>hne (.inl e)) (λk hk=>⟨by rw[hs];exact(h.lt o B k hB hk).1,.inl hk⟩) (by rw[QrJ hB];exact O);rwa[QrJ hB]at this
def RR.block (h:RR C Z Y a w){o:Nat}{B:QV}(hB:Z o=X B){ob:Ob}(ho:look Y.hp o=X ob):Jg Z (Xc C Z w) w B ob:=by
 rcases h.heap o ob ho with⟨B',O,hr⟩|⟨hn,_⟩
 ·rw[hB]at O;cases O;exact hr
 rw[hn]at hB;cases hB
end
def XJ.const {I:Nat->Prop}{w:World}(x:Value):XJ I w x (Bh x):=by
 cases x<;>first|exact .b _|exact .i _ _|exact .s _|exact .lit _
def V.plain : V->Bool
 |.b _=>t_|.i _ _=>t_|.s _=>t_|.lit _=>t_|.J=>t_|.sl _ _=>t_|.sln _ _ _=>t_|.e0=>t_|.ro _=>t_|_=>f_
def QR.plain {Z:Nat->O_ QV}{I:Nat->Prop}{w:World}{x:Value}{v:V}(h:QR Z I w x v)(O:v.plain=t_):XJ I w x v:=by
 cases h with|dat h=>exact h|_=>cases O
def QR.aggPlain {Z:Nat->O_ QV}{I:Nat->Prop}{w:World}{xs:Array Value}{h:L_ V}(hs:xs.size=h.length)(hr:∀(j:Nat) x v,xs[j]? = X x->h[j]? = X v->QR Z I w x v)(hv:h.all V.plain=t_):XJ I w (.agg xs) (.agg h):=by
 rw[XM]at hv;exact .agg xs h hs λj x v hx O=>(hr j x v hx O).plain (hv v (XG O))
def V.dat : V->Bool
 |.own _ _=>f_|.tl _ _ _=>f_|.loc _ _ _=>f_|.map _=>f_|.clo _ _ _=>f_|.agg h=>h.all V.plain|.tup _=>f_|.ifc _ x=>x.dat|_=>t_
def QR.toDat {Z:Nat->O_ QV}{I:Nat->Prop}{w:World}{x:Value}{v:V}(h:QR Z I w x v)(O:v.dat=t_):XJ I w x v:=by
 induction h with|dat h=>exact h|ifc t x v h ih=>exact .ifc t x v (ih (by simpa[V.dat] using O))|agg xs cs hs hr _=>exact QR.aggPlain hs hr O|_=>simp[V.dat]at O
section
variable {P:Program}{C:Xs}{Y:St}{o:Oper}
def Stp.alloc {T d:Nat}{zs:L_ V}(ho:o.op=.alloc T)(hd:o.dst=X d)(hn:B_ d C)(h:Xm P T=X zs)(hf:look Y.hp d=n_):
  Stp P C o Y ((Y.set d (.var zs)).put d (.loc d 0 0)):=by
 refine Stp.val λZ a w hr=>?_;unfold Xm at h;split at h
 ·rename_i i hi;split at h
  ·rename_i z hzz;cases h;refine⟨.pointer (X ⟨w.heap.size,0,n_⟩),w.alloc (.cells z.cells T),ext Z d ⟨w.heap.size,1,0,[],0⟩,?_,?_⟩
   ·simp[execOp,ho,Instr.alloc,zeroValue,typeInfo,hi,hzz,newVar,newRow]
   have O:=(hr.alloc (cap:=1) (z:=0) hf (C.slot hn) (ob:=.var (z.cells.toList.map Bh)) (obj:=.cells z.cells T)
    ⟨z.cells,T,heap_alloc_new w _,by simp,rfl,λj x v hx hv=>by
     simp[hx]at hv;subst hv;exact .dat (XJ.const _)⟩)
   rw[hd];refine O.put (Xv hn) ?_;have:=QR.loc (Z:=ext Z d ⟨w.heap.size,1,0,[],0⟩) (I:=Xc C (ext Z d ⟨w.heap.size,1,0,[],0⟩) (w.alloc (.cells z.cells T))) (w:=w.alloc (.cells z.cells T)) d 0 0 _ (Xb _ _ _);simpa using this
  cases h
 cases h
def Stp.box {T d:Nat}{x:Operand}{v:V}(ho:o.op=.box T x)(hd:o.dst=X d)(hn:B_ d C)(hx:Y.opd x=X v)(h1:v.one=t_\/∃cs,v=.agg cs)
  (hf:look Y.hp d=n_):Stp P C o Y ((Y.set d (.var v.cells)).put d (.loc d 0 0)):=by
 refine Stp.val λZ a w O=>?_;have hv:=O.opd hx;obtain⟨hs,hc⟩:=hv.cells h1;refine⟨.pointer (X ⟨w.heap.size,0,n_⟩),w.alloc (.cells (a.eval x).cells T),ext Z d ⟨w.heap.size,1,0,[],0⟩,?_,?_⟩
 ·simp[execOp,ho,Instr.box,newVar,newRow]
 have hN:=O.none_of_look hf;have h:=(O.alloc (cap:=1) (z:=0) hf (C.slot hn) (ob:=.var v.cells) (obj:=.cells (a.eval x).cells T)
  ⟨(a.eval x).cells,T,heap_alloc_new w _,hs,rfl,λj x v hx hv=>(hc j x v hx hv).mono (O.mono_ext _ hN) (O.imm_alloc d 1 0 _ hN)⟩)
 rw[hd];refine h.put (Xv hn) ?_;have:=QR.loc (Z:=ext Z d ⟨w.heap.size,1,0,[],0⟩) (I:=Xc C (ext Z d ⟨w.heap.size,1,0,[],0⟩) (w.alloc (.cells (a.eval x).cells T))) (w:=w.alloc (.cells (a.eval x).cells T)) d 0 0 _ (Xb _ _ _);simpa using this
def Ph {T:Nat}{w:World}{p:Addr}{x:Value}(O:Ux P T=X f_)(h:w.cell? p=X x):(Instr.loadAt T (.pointer (X p))).run P w=.ok x w:=by
 simp[Instr.loadAt,Instr.sureAddr,loadVar,Qd9 O,h]
def Zn {T n:Nat}{w:World}{p:Addr}(c:Nat->Value)(O:Ux P T=X t_)(hs:BA P T=X n)(h:∀j,j<n->w.cell? (p.add j)=X (c j)):
  (Instr.loadAt T (.pointer (X p))).run P w=.ok (.agg ((List.range n).map c).toArray) w:=by
 simp only[Instr.loadAt,Instr.sureAddr,loadVar,Xh,Xq,Xp,Qd9 O,if_true,QgU hs];rw[run_loadCells w p n c h];simp
def Stp.load1L {T d b off:Nat}{x:Operand}{O:L_ V}{v:V}(ho:o.op=.load T x)(hd:o.dst=X d)(hn:B_ d C)(hx:Y.opd x=X (.loc b 0 off))
  (hb:look Y.hp b=X (.var O)) (hg:Ux P T=X f_) (hv:O[off]? = X v):Stp P C o Y (Y.put d v):=by
 refine Stp.same hd hn λZ a w hr=>?_;obtain⟨B,hB,he⟩:=(hr.opd hx).loc_inv;obtain⟨xs,E,h1,h2,h0,h3⟩:=hr.block hB hb;have h:off<xs.size:=by rw[h2];exact(QX.1 hv).1
 have hc:w.cell? ⟨B.b,B.off+(0*B.z+off),n_⟩=X xs[off]:=by simp[World.cell?,h1,h,h0]
 refine⟨xs[off],?_,h3 off _ v (by simp[h]) hv⟩;simp only[execOp,ho,he,Xh,Ph hg hc,Xp,Xq]
def Stp.loadAL {T d b off n:Nat}{x:Operand}{O vs:L_ V}(ho:o.op=.load T x)(hd:o.dst=X d)(hn:B_ d C)(hx:Y.opd x=X (.loc b 0 off))
  (hb:look Y.hp b=X (.var O)) (hg:Ux P T=X t_) (hs:BA P T=X n) (h:Nat.ble (off+n) O.length=t_) (hv:(O.drop off).take n=vs):Stp P C o Y (Y.put d (.agg vs)):=by
 refine Stp.same hd hn λZ a w hr=>?_;have h:=JT h;obtain⟨B,hB,he⟩:=(hr.opd hx).loc_inv;obtain⟨xs,E,h1,h2,h0,h3⟩:=hr.block hB hb;have hc:∀j,j<n->w.cell? ((⟨B.b,B.off+(0*B.z+off),n_⟩:Addr).add j)=X (xs.getD (off+j) undef):=by
  intro j hj;have:off+j<xs.size:=by omega
  simp[Addr.add_lit,World.cell?,h1,Array.getD,this,h0]
 refine⟨.agg ((List.range n).map λj=>xs.getD (off+j) undef).toArray,by simp only[execOp,ho,he,Xh,Zn _ hg hs hc,Xp,Xq],.agg _ _ ?_ ?_⟩
 ·subst hv;simp;omega
 intro j y u hy hu;subst hv;simp only[Uu,Ya,Yf,QX,Qd5,Qj6]at hy;obtain⟨_,⟨hj,rfl⟩,rfl⟩:=hy;have hlt:off+j<xs.size:=by omega
 refine h3 (off+j) _ u (by simp[Array.getD,hlt]) ?_;rwa[YQ,if_pos hj,WP]at hu
def Yc.cell {I:Nat->Prop}{w:World}{B:QV}{z:Nat}{rs:L_ (L_ V)}(h:Yc I w B z rs){i off:Nat}{r:L_ V}{v:V}(hi:rs[i]? = X r)(hv:r[off]? = X v):
  ∃y,w.cell? ⟨B.b,B.off+(i*B.z+off),n_⟩=X y/\XJ I w y v:=by
 obtain⟨hz,_,_,xs,E,O,h2,h3⟩:=h;obtain⟨y,hy,hr⟩:=h3 i r hi off v hv;exact⟨y,by simp[World.cell?,O,hz,hy],hr⟩
def Stp.load1A {T d b i off z:Nat}{x:Operand}{rs:L_ (L_ V)}{r:L_ V}{v:V}(ho:o.op=.load T x)(hd:o.dst=X d)(hn:B_ d C)(hx:Y.opd x=X (.loc b i off))
  (hb:look Y.hp b=X (.arr z rs)) (hg:Ux P T=X f_) (hi:rs[i]? = X r) (hv:r[off]? = X v):Stp P C o Y (Y.put d v):=by
 refine Stp.same hd hn λZ a w h=>?_;obtain⟨B,O,he⟩:=(h.opd hx).loc_inv;obtain⟨y,hc,hy⟩:=Yc.cell (h.block O hb) hi hv;exact⟨y,by simp[execOp,ho,he,Ph hg hc],.dat hy⟩
def Stp.loadAA {T d b i off z n:Nat}{x:Operand}{rs:L_ (L_ V)}{r vs:L_ V}(ho:o.op=.load T x)(hd:o.dst=X d)(hn:B_ d C)(hx:Y.opd x=X (.loc b i off))
  (hb:look Y.hp b=X (.arr z rs)) (hg:Ux P T=X t_) (hs:BA P T=X n) (hi:rs[i]? = X r) (O:Nat.ble (off+n) r.length=t_) (hv:(r.drop off).take n=vs):
  Stp P C o Y (Y.put d (.agg vs)):=by
 refine Stp.same hd hn λZ a w hr=>?_;have O:=JT O;obtain⟨B,hB,he⟩:=(hr.opd hx).loc_inv;have hA:=hr.block hB hb;have key:∀j,j<n->∃y,w.cell? ⟨B.b,B.off+(i*B.z+off)+j,n_⟩=X y/\∀v,r[off+j]? = X v->XJ (Xc C Z w) w y v:=by
  intro j h;have:off+j<r.length:=by omega
  obtain⟨y,hc,hy⟩:=Yc.cell hA hi (QI this);exact⟨y,by simpa[Ns] using hc,λv hv=>by rw[QI this]at hv;exact Option.some.inj hv▸hy⟩
 have hc:∀j,j<n->w.cell? ((⟨B.b,B.off+(i*B.z+off),n_⟩:Addr).add j)=X ((w.cell? ⟨B.b,B.off+(i*B.z+off)+j,n_⟩).getD undef):=by
  intro j h;obtain⟨y,h1,_⟩:=key j h;simp[Addr.add_lit,h1]
 refine⟨.agg ((List.range n).map λj=>(w.cell? ⟨B.b,B.off+(i*B.z+off)+j,n_⟩).getD undef).toArray,by simp only[execOp,ho,he,Xh,Zn _ hg hs hc,Xp,Xq],.agg _ _ ?_ ?_⟩
 ·subst hv;simp;omega
 intro j y u hy hu;subst hv;simp only[Uu,Ya,Yf,QX,Qd5,Qj6]at hy;obtain⟨_,⟨h,rfl⟩,rfl⟩:=hy;obtain⟨y,h1,h2⟩:=key j h;rw[h1];refine .dat (h2 u ?_);rw[YQ,if_pos h,WP]at hu;exact hu
def Stp.load1R {T d:Nat}{x:Operand}{v:V}{O:L_ V}(ho:o.op=.load T x)(h:o.dst=X d)(hn:B_ d C)(hx:Y.opd x=X (.ro O))
  (hg:Ux P T=X f_) (hv:O[0]? = X v):Stp P C o Y (Y.put d v):=by
 refine Stp.same h hn λZ a w hr=>?_;obtain⟨b,off,he,hI,_,c,hc,h⟩:=(hr.opd hx).ro_inv;have:=hc 0 ((QX.1 hv).1);exact⟨c 0,by simp only[execOp,ho,he,Xh,Ph hg (by simpa using this),Xp,Xq],.dat (h 0 v hv)⟩
def Stp.loadAR {T d n:Nat}{x:Operand}{vs O:L_ V}(ho:o.op=.load T x)(hd:o.dst=X d)(hn:B_ d C)(hx:Y.opd x=X (.ro O))
  (hg:Ux P T=X t_) (hs:BA P T=X n) (h:Nat.ble n O.length=t_) (hv:O.take n=vs):Stp P C o Y (Y.put d (.agg vs)):=by
 refine Stp.same hd hn λZ a w hr=>?_;have h:=JT h;obtain⟨b,off,he,hI,_,c,hc,hd⟩:=(hr.opd hx).ro_inv;have hc':∀j,j<n->w.cell? ((⟨b,off,n_⟩:Addr).add j)=X (c j):=λj hj=>by rw[Addr.add_lit];exact hc j (by omega)
 refine⟨.agg ((List.range n).map c).toArray,by simp only[execOp,ho,he,Xh,Zn _ hg hs hc',Xp,Xq],.agg _ _ ?_ ?_⟩
 ·subst hv;simp;omega
 intro j y u hy hu;subst hv;simp only[Uu,Ya,Yf,QX,Qd5,Qj6]at hy;obtain⟨_,⟨hj,rfl⟩,rfl⟩:=hy;refine .dat (hd j u ?_);rw[YQ,if_pos hj]at hu;exact hu
def Qlu {T n g off:Nat}{w:World}{x:Value}{cur:Array Value}{E:TypeId}(hs:BA P T=X n)(O:x.cells.size=n)(hg:w.heap[g]? = X (.cells cur E (0,0)))
  (h:off+n<=cur.size) (h1:∀u∈x.cells.toList,u.oneCell'=t_):
  (Instr.storeAt T (.pointer (X ⟨g,off,n_⟩)) x).run P w=.ok () (w.setRow g (cur.toList.take off++x.cells.toList++cur.toList.drop (off+n)).toArray):=by
 have:=run_storeCells_at P g off E x.cells.toList 0 cur w hg (by simpa[O] using h) h1;simp[Instr.storeAt,Instr.sureAddr,storeVar,QgU hs,O,this]
def Wb (r:L_ V)(off:Nat)(vs:L_ V):L_ V:=r.take off++vs++r.drop (off+vs.length)
def QR.cells_one {Z:Nat->O_ QV}{I:Nat->Prop}{w:World}{x:Value}{v:V}(h:QR Z I w x v)(hv:v.one=t_\/∃cs,v=.agg cs)(h1:v.cells.all V.one=t_):
  ∀u∈x.cells.toList,u.oneCell'=t_:=by
 intro u hu;obtain⟨hs,hc⟩:=h.cells hv;obtain⟨j,hj,rfl⟩:=List.getElem_of_mem hu;have O:j<v.cells.length:=by rw[<-hs];simpa using hj
 have hj2:j<x.cells.size:=by simpa using hj
 have h3:=hc j x.cells[j] v.cells[j] (GR hj2) (QI O);have h4:(v.cells[j]).one=t_:=by
  rw[XM]at h1;exact h1 _ (Jc _)
 simpa using (h3.oneCell h4).2
def Stp.storeL {T b off n:Nat}{x y:Operand}{cs cs':L_ V}{v:V}(ho:o.op=.store T x y)(hd:o.dst=n_)(hx:Y.opd x=X (.loc b 0 off))
  (hb:look Y.hp b=X (.var cs)) (hy:Y.opd y=X v) (h1:v.one=t_\/∃cs,v=.agg cs) (hs:BA P T=X n) (hl:v.cells.length=n) (hall:v.cells.all V.one=t_)
  (hle:Nat.ble (off+n) cs.length=t_) (he:Wb cs off v.cells=cs'):Stp P C o Y (Y.set b (.var cs')):=by
 refine Stp.skp λZ a w hr=>?_;subst he;have hle:=JT hle;obtain⟨B,hB,he⟩:=(hr.opd hx).loc_inv;obtain⟨xs,E,e1,e2,e0,e3⟩:=hr.block hB hb;rw[e0]at he;have hv:=hr.opd hy;obtain⟨hcs,hc⟩:=hv.cells h1;have hsz:(a.eval y).cells.size=n:=by rw[hcs,hl]
 have hrun:=Qlu (off:=off) hs hsz e1 (by omega) (hv.cells_one h1 hall);refine⟨w.setRow B.b (xs.toList.take off++(a.eval y).cells.toList++xs.toList.drop (off+n)).toArray,Z,?_,?_⟩
 ·simp only[execOp,ho,he,Xh,Ib,DY,hrun,Xp,Xq]
 rw[hd];have hl1:(xs.toList.take off++(a.eval y).cells.toList++xs.toList.drop (off+n)).length=xs.size:=by simp;omega
 refine hr.write hB rfl rfl rfl (by simp) (λk hk=>setRow_other w B.b k _ hk) ⟨_,E,setRow_heap w B.b xs _ E _ e1,?_,e0,?_⟩
 ·simp only[Zl,hl1];simp[Wb,hl];omega
 have hI:∀k,Xc C Z w k->Xc C Z (w.setRow B.b (xs.toList.take off++(a.eval y).cells.toList++xs.toList.drop (off+n)).toArray) k/\
   (w.setRow B.b (xs.toList.take off++(a.eval y).cells.toList++xs.toList.drop (off+n)).toArray).heap[k]? = w.heap[k]?:=
  λk hk=>⟨⟨by simpa using hk.1,hk.2⟩,setRow_other w B.b k _ λe=>hk.2.2 b B hB (.inl e)⟩
 intro j y' u O hu;refine QR.mono (λ_ _ h=>h) hI ?_;simp only[Uu,Wb]at O hu;by_cases hj:j<off
 ·rw[WC,Yp (by simp;omega),YQ,if_pos hj]at O hu;exact e3 j y' u (by simpa using O) hu
 by_cases hj2:j<off+n
 ·rw[Yp (by simp;omega),YJ (by simp;omega)]at O hu;have el:off-min off cs.length=0:=by omega
  have el2:off-min off xs.size=0:=by omega
  refine hc (j-off) y' u ?_ ?_
  ·rw[<-O];simp;congr 1;omega
  rw[<-hu];simp;congr 1;omega
 rw[YJ (by simp;omega)]at O hu;refine e3 j y' u ?_ ?_
 ·rw[<-O];simp;congr 1;omega
 rw[<-hu];simp;congr 1;omega
end
section
variable {P:Program}{C:Xs}{Y:St}{o:Oper}
def QuA {i O z j off n:Nat}(h:O≠i)(hj:j<z)(hn:off+n<=z):O*z+j<i*z+off\/i*z+off+n<=O*z+j:=by
 rcases Nat.lt_or_gt_of_ne h with h|h
 ·left;have:(O+1)*z<=i*z:=Ys z h;rw[YS]at this;omega
 right;have:(i+1)*z<=O*z:=Ys z h;rw[YS]at this;omega
def Stp.storeAV {T b i off n z:Nat}{x y:Operand}{rs rs':L_ (L_ V)}{r:L_ V}{v:V}(ho:o.op=.store T x y)(hd:o.dst=n_)(hx:Y.opd x=X (.loc b i off))
  (hb:look Y.hp b=X (.arr z rs)) (hi:rs[i]? = X r) (hy:∀Z a w,RR C Z Y a w->QR Z (Xc C Z w) w (a.eval y) v) (h1:v.one=t_\/∃cs,v=.agg cs) (hs:BA P T=X n) (hl:v.cells.length=n)
  (hall:v.cells.all V.one=t_) (hdat:v.cells.all V.dat=t_) (hle:Nat.ble (off+n) z=t_) (he:rs.set i (Wb r off v.cells)=rs'):Stp P C o Y (Y.set b (.arr z rs')):=by
 refine Stp.skp λZ a w hr=>?_;subst he;have hle:=JT hle;obtain⟨B,hB,he⟩:=(hr.opd hx).loc_inv;obtain⟨hz,hrl,hok,xs,E,e1,e2,e3⟩:=hr.block hB hb;subst hz;have hv:=hy Z a w hr;obtain⟨hcs,hc⟩:=hv.cells h1;have hsz:(a.eval y).cells.size=n:=by rw[hcs,hl]
 have hilt:i<rs.length:=(QX.1 hi).1;have hrlen:r.length=B.z:=(hok r (XG hi)).1;have hbig:B.off+(i*B.z+B.z)<=xs.size:=by
  refine Yx ?_ e2;have:(i+1)*B.z<=B.cap*B.z:=Ys _ (by omega);rw[YS]at this;omega
 have hrun:=Qlu (off:=B.off+(i*B.z+off)) hs hsz e1 (by omega) (hv.cells_one h1 hall);refine⟨w.setRow B.b (xs.toList.take (B.off+(i*B.z+off))++(a.eval y).cells.toList++xs.toList.drop (B.off+(i*B.z+off)+n)).toArray,Z,?_,?_⟩
 ·simp only[execOp,ho,he,Xh,hrun,Xp,Xq]
 rw[hd];have hl1:(xs.toList.take (B.off+(i*B.z+off))++(a.eval y).cells.toList++xs.toList.drop (B.off+(i*B.z+off)+n)).length=xs.size:=by simp;omega
 refine hr.write hB rfl rfl rfl (by simp) (λk hk=>setRow_other w B.b k _ hk) ⟨rfl,by simpa using hrl,?_,_,E,setRow_heap w B.b xs _ E _ e1,?_,?_⟩
 ·intro r' hr';rcases List.mem_or_eq_of_mem_set hr' with h|h
  ·exact hok r' h
  subst h;refine⟨by simp[Wb,hl];omega,λu O=>?_⟩;simp only[Wb,Jy]at O;rcases O with(O|O)|O
  ·exact(hok r (XG hi)).2 u (DV O)
  ·rw[XM]at hall;exact hall u O
  exact(hok r (XG hi)).2 u (Nr O)
 ·simp only[Zl,hl1];exact e2
 have hI:∀k,Xc C Z w k->Xc C Z (w.setRow B.b (xs.toList.take (B.off+(i*B.z+off))++(a.eval y).cells.toList++xs.toList.drop (B.off+(i*B.z+off)+n)).toArray) k/\
   (w.setRow B.b (xs.toList.take (B.off+(i*B.z+off))++(a.eval y).cells.toList++xs.toList.drop (B.off+(i*B.z+off)+n)).toArray).heap[k]? = w.heap[k]?:=
  λk hk=>⟨⟨by simpa using hk.1,hk.2⟩,setRow_other w B.b k _ λe=>hk.2.2 b B hB (.inl e)⟩
 have old:∀(i':Nat) r',rs[i']? = X r'->∀(j:Nat) u,r'[j]? = X u->(i'*B.z+j<i*B.z+off\/i*B.z+off+n<=i'*B.z+j)->
   ∃y',(xs.toList.take (B.off+(i*B.z+off))++(a.eval y).cells.toList++xs.toList.drop (B.off+(i*B.z+off)+n)).toArray[B.off+(i'*B.z+j)]? = X y'/\
    XJ (Xc C Z (w.setRow B.b (xs.toList.take (B.off+(i*B.z+off))++(a.eval y).cells.toList++xs.toList.drop (B.off+(i*B.z+off)+n)).toArray))
     (w.setRow B.b (xs.toList.take (B.off+(i*B.z+off))++(a.eval y).cells.toList++xs.toList.drop (B.off+(i*B.z+off)+n)).toArray) y' u:=by
  intro i' r' hi' j u O hout;obtain⟨y',h1',h2'⟩:=e3 i' r' hi' j u O;refine⟨y',?_,h2'.mono hI⟩;rw[Uu];rcases hout with hout|hout
  ·rw[WC,Yp (by simp;omega),YQ,if_pos (by omega)];simpa using h1'
  have hlt:B.off+(i'*B.z+j)<xs.size:=(Em.1 h1').1;rw[YJ (by simp;omega),WP];rw[<-h1'];simp;congr 1;omega
 intro i' r' hi' j u O;by_cases e:i'=i
 ·subst e;rw[Qbx (by omega)]at hi';cases hi';by_cases hj:j<off
  ·have hu':r[j]? = X u:=by
    rw[Wb,WC,Yp (by simp;omega),YQ,if_pos hj]at O;exact O
   exact old i' r hi j u hu' (.inl (by omega))
  by_cases hj2:j<off+n
  ·have hu':v.cells[j-off]? = X u:=by
    rw[Wb,Yp (by simp;omega),YJ (by simp;omega)]at O;rw[<-O];congr 1;simp;omega
   have hlt:j-off<(a.eval y).cells.size:=by omega
   have hD:=(hc (j-off) _ u (GR hlt) hu').toDat (by
    rw[XM]at hdat;exact hdat u (XG hu'))
   refine⟨(a.eval y).cells[j-off],?_,hD.mono hI⟩;rw[Uu,Yp (by simp;omega),YJ (by simp;omega)];have:B.off+(i'*B.z+j)-(xs.toList.take (B.off+(i'*B.z+off))).length=j-off:=by simp;omega
   rw[this];simp[hlt]
  have hu':r[j]? = X u:=by
   rw[Wb,YJ (by simp;omega),WP]at O;rw[<-O];congr 1;simp;omega
  exact old i' r hi j u hu' (.inr (by omega))
 have hi'':rs[i']? = X r':=by rwa[SA (Ne.symm e)]at hi'
 have hjz:j<B.z:=by
  have:=(QX.1 O).1;rwa[(hok r' (XG hi'')).1]at this
 exact old i' r' hi'' j u O (QuA e hjz hle)
def Stp.storeA {T b i off n z:Nat}{x y:Operand}{rs rs':L_ (L_ V)}{r:L_ V}{v:V}(ho:o.op=.store T x y)(hd:o.dst=n_)(hx:Y.opd x=X (.loc b i off))
  (hb:look Y.hp b=X (.arr z rs)) (hi:rs[i]? = X r) (hy:Y.opd y=X v) (h1:v.one=t_\/∃cs,v=.agg cs) (hs:BA P T=X n) (hl:v.cells.length=n)
  (h:v.cells.all V.one=t_) (O:v.cells.all V.dat=t_) (hle:Nat.ble (off+n) z=t_) (he:rs.set i (Wb r off v.cells)=rs'):Stp P C o Y (Y.set b (.arr z rs')):=
 Stp.storeAV ho hd hx hb hi (λZ a w hr=>hr.opd hy) h1 hs hl h O hle he
def Qlv {T f off:Nat}{w:World}{p:Addr}(h:Rn P T f=X off):(Instr.fieldAt T (.pointer (X p)) f).run P w=.ok (.pointer (X (p.add off))) w:=by
 unfold Rn at h;split at h
 ·rename_i fs hfs;split at h
  ·rename_i fl O;split at h
   ·rename_i i hi;split at h
    ·cases h
    rename_i hne;cases h;simp[Instr.fieldAt,run_underlying hfs,O,Instr.sureAddr,fieldPlace,sizeOf,typeInfo,hi,hne]
   cases h
  cases h
 cases h
def Stp.fieldL {T f d b i k off:Nat}{x:Operand}(ho:o.op=.fieldAddr T x f)(O:o.dst=X d)(hn:B_ d C)(hx:Y.opd x=X (.loc b i k))
  (hf:Rn P T f=X off):Stp P C o Y (Y.put d (.loc b i (k+off))):=by
 refine Stp.same O hn λZ a w hr=>?_;obtain⟨B,h,he⟩:=(hr.opd hx).loc_inv;refine⟨.pointer (X ⟨B.b,B.off+(i*B.z+(k+off)),n_⟩),?_,.loc b i (k+off) B h⟩;simp only[execOp,ho,he,Xh,Qlv hf,Xp,Xq,Addr.add_lit,Ns]
def XJ.ro_drop {I:Nat->Prop}{w:World}{b off:Nat}{h:L_ V}{c:Nat->Value}(k:Nat)(hI:I b)(h1:∀v∈h,v.one=t_)(hc:∀j,j<h.length->w.cell? ⟨b,off+j,n_⟩=X (c j))
  (hd:∀(j:Nat) v,h[j]? = X v->XJ I w (c j) v):XJ I w (.pointer (X ⟨b,off+k,n_⟩)) (.ro (h.drop k)):=by
 refine .ro b (off+k) _ (λj=>c (k+j)) hI (λv O=>h1 v (Nr O)) (λj hj=>?_) λj v O=>hd (k+j) v (by rwa[WP]at O);have:=hc (k+j) (by simp at hj;omega);rwa[<-Ns]at this
def Stp.fieldR {T f d off:Nat}{x:Operand}{cs h:L_ V}(ho:o.op=.fieldAddr T x f)(hd:o.dst=X d)(hn:B_ d C)(hx:Y.opd x=X (.ro cs))
  (hf:Rn P T f=X off) (O:cs.drop off=h):Stp P C o Y (Y.put d (.ro h)):=by
 refine Stp.same hd hn λZ a w hr=>?_;subst O;obtain⟨b,k,O,hI,h1,c,hc,hD⟩:=(hr.opd hx).ro_inv;refine⟨.pointer (X ⟨b,k+off,n_⟩),?_,.dat (XJ.ro_drop off hI h1 hc hD)⟩;simp only[execOp,ho,O,Xh,Qlv hf,Xp,Xq,Addr.add_lit]
def Jq {T e z by_:Nat}(h:XZ P T=X (e,z,by_)):P.underlying T=X (.slice e)/\∃i,P.info? e=X i/\i.size=z/\i.bytes=by_:=by
 unfold XZ at h;split at h
 ·rename_i e' O;split at h
  ·rename_i i hi;cases h;exact⟨O,i,hi,rfl,rfl⟩
  cases h
 cases h
def ZG {T n z:Nat}(h:SC P T=X (n,z)):∃e,P.underlying T=X (.array n e)/\∃i,P.info? e=X i/\i.size=z:=by
 unfold SC at h;split at h
 ·rename_i n' e' O;split at h
  ·rename_i i hi;cases h;exact⟨e',O,i,hi,rfl⟩
  cases h
 cases h
def Qb9 {T e z by_ len cap:Nat}{w:World}{p:Addr}{k:IntKind}{j:Int}(hT:XZ P T=X (e,z,by_))(h:0<=j)(O:j<len):
  (Instr.indexAt T (.slice (X p) len cap) (.int k j)).run P w=.ok (.pointer (X (p.add (j.toNat*z)))) w:=by
 obtain⟨hu,i,hi,rfl,rfl⟩:=Jq hT;simp[Instr.indexAt,asIntOf,run_underlying hu,sizeOf,typeInfo,hi,h,O]
def Stp.idxS {T d e z by_:Nat}{x y:Operand}{rows:L_ (L_ V)}{r:L_ V}{k:IntKind}{j:Int}(ho:o.op=.indexAddr T x y)(hd:o.dst=X d)(hn:B_ d C)
  (hx:Y.opd x=X (.sl z rows)) (hy:Y.opd y=X (.i k j)) (hT:XZ P T=X (e,z,by_)) (h0:0<=j) (h:rows[j.toNat]? = X r):Stp P C o Y (Y.put d (.ro r)):=by
 refine Stp.same hd hn λZ a w hr=>?_;have hlt:j.toNat<rows.length:=(QX.1 h).1;rcases(hr.opd hx).sl_inv with⟨_,_,_,rfl⟩|⟨b,off,cap,he,hI,hcap,hok,c,hc,hD⟩
 ·simp at h
 have O:=hok r (XG h);have hbig:j.toNat*z+z<=rows.length*z:=by
  have:(j.toNat+1)*z<=rows.length*z:=Ys _ hlt;rw[YS]at this;omega
 refine⟨.pointer (X ⟨b,off+j.toNat*z,n_⟩),?_,.dat (.ro b _ r (λm=>c (j.toNat*z+m)) hI O.2 (λm hm=>?_) (λm v hv=>hD _ r h m v hv))⟩
 ·simp only[execOp,ho,he,(hr.opd hy).i_inv,Xh,Qb9 hT h0 (show j<(rows.length:Int) by omega),Xp,Xq,Addr.add_lit]
 have:=hc (j.toNat*z+m) (by rw[O.1]at hm;omega);rwa[<-Ns]at this
def Stp.idxO {T d e z by_ b n:Nat}{x y:Operand}{rs:L_ (L_ V)}{k:IntKind}{j:Int}(ho:o.op=.indexAddr T x y)(hd:o.dst=X d)(hn:B_ d C)
  (hx:Y.opd x=X (.own b n)) (hy:Y.opd y=X (.i k j)) (hT:XZ P T=X (e,z,by_)) (hb:look Y.hp b=X (.arr z rs)) (h0:0<=j) (h1:j<n):
  Stp P C o Y (Y.put d (.loc b j.toNat 0)):=by
 refine Stp.same hd hn λZ a w h=>?_;rcases(h.opd hx).own_inv with⟨_,rfl⟩|⟨B,O,hcap,he⟩
 ·omega
 have hz:B.z=z:=(h.block O hb).1;refine⟨.pointer (X ⟨B.b,B.off+(j.toNat*B.z+0),n_⟩),?_,.loc b j.toNat 0 B O⟩;simp only[execOp,ho,he,(h.opd hy).i_inv,Xh,Qb9 hT h0 h1,Xp,Xq,Addr.add_lit,hz,DY,PO]
def QiB {T z n:Nat}{w:World}{p:Addr}{k:IntKind}{j:Int}(hT:SC P T=X (n,z))(h:0<=j)(O:j<n):
  (Instr.indexAt T (.pointer (X p)) (.int k j)).run P w=.ok (.pointer (X (p.add (j.toNat*z)))) w:=by
 obtain⟨e,hu,i,hi,rfl⟩:=ZG hT;simp[Instr.indexAt,asIntOf,run_underlying hu,sizeOf,typeInfo,hi,h,O,Instr.sureAddr]
def Stp.idxAL {T d z n b i m off:Nat}{x y:Operand}{k:IntKind}{j:Int}(ho:o.op=.indexAddr T x y)(hd:o.dst=X d)(hn:B_ d C)
  (hx:Y.opd x=X (.loc b i m)) (hy:Y.opd y=X (.i k j)) (hT:SC P T=X (n,z)) (h0:0<=j) (h1:j<n) (h:m+j.toNat*z=off):Stp P C o Y (Y.put d (.loc b i off)):=by
 refine Stp.same hd hn λZ a w O=>?_;subst h;obtain⟨B,hB,he⟩:=(O.opd hx).loc_inv;refine⟨.pointer (X ⟨B.b,B.off+(i*B.z+(m+j.toNat*z)),n_⟩),?_,.loc b i _ B hB⟩;simp only[execOp,ho,he,(O.opd hy).i_inv,Xh,QiB hT h0 h1,Xp,Xq,Addr.add_lit,Ns]
def Stp.idxAR {T d z n:Nat}{x y:Operand}{k:IntKind}{j:Int}{cs h:L_ V}(ho:o.op=.indexAddr T x y)(hd:o.dst=X d)(hn:B_ d C)
  (hx:Y.opd x=X (.ro cs)) (hy:Y.opd y=X (.i k j)) (hT:SC P T=X (n,z)) (h0:0<=j) (h1:j<n) (he:cs.drop (j.toNat*z)=h):Stp P C o Y (Y.put d (.ro h)):=by
 refine Stp.same hd hn λZ a w hr=>?_;subst he;obtain⟨b,m,he,hI,O,c,hc,hD⟩:=(hr.opd hx).ro_inv;refine⟨.pointer (X ⟨b,m+j.toNat*z,n_⟩),?_,.dat (XJ.ro_drop _ hI O hc hD)⟩;simp only[execOp,ho,he,(hr.opd hy).i_inv,Xh,QiB hT h0 h1,Xp,Xq,Addr.add_lit]
def QeX (P:Program)(t:TypeId):Bool:=match P.underlying t with|some .string=>true|_=>f_
def Vo {T:Nat}(h:QeX P T=t_):P.underlying T=X .string:=by
 unfold QeX at h;split at h
 ·assumption
 cases h
def Stp.idxStr {T d:Nat}{x y:Operand}{k:IntKind}{j:Int}{s:ByteArray}{c:UInt8}(ho:o.op=.index T x y)(hd:o.dst=X d)(hn:B_ d C)
  (hx:Y.opd x=X (.s s)) (hy:Y.opd y=X (.i k j)) (hT:QeX P T=t_) (O:0<=j) (hc:s[j.toNat]? = X c):Stp P C o Y (Y.put d (.i .u8 c.toNat)):=by
 refine Stp.same hd hn λZ a w h=>?_;refine⟨.int .u8 c.toNat,?_,.dat (.i _ _)⟩;simp[execOp,ho,(h.opd hx).s_inv,(h.opd hy).i_inv,Instr.index,asIntOf,run_underlying (Vo hT),O,hc]
def Stp.lenS {T d e z z' by_:Nat}{x:Operand}{rows:L_ (L_ V)}(ho:o.op=.call { callee:=.builtin .len,args:=#[x],argTypes:=#[T] })(hd:o.dst=X d)(hn:B_ d C)
  (hx:Y.opd x=X (.sl z rows)) (O:XZ P T=X (e,z',by_)):Stp P C o Y (Y.put d (.i .i64 rows.length)):=by
 refine Stp.same hd hn λZ a w hr=>?_;obtain⟨hu,_⟩:=Jq O;refine⟨.int .i64 rows.length,?_,.dat (.i _ _)⟩;rcases(hr.opd hx).sl_inv with⟨p,cap,h,rfl⟩|⟨b,off,cap,h,_⟩ <;>
  simp[execOp,ho,h,resolve,invoke,builtin,Builtin.len_,run_underlying hu,goInt]
def Stp.lenO {T d e z' by_ b n:Nat}{x:Operand}(ho:o.op=.call { callee:=.builtin .len,args:=#[x],argTypes:=#[T] })(hd:o.dst=X d)(hn:B_ d C)
  (hx:Y.opd x=X (.own b n)) (O:XZ P T=X (e,z',by_)):Stp P C o Y (Y.put d (.i .i64 n)):=by
 refine Stp.same hd hn λZ a w hr=>?_;obtain⟨hu,_⟩:=Jq O;refine⟨.int .i64 n,?_,.dat (.i _ _)⟩;rcases(hr.opd hx).own_inv with⟨h,rfl⟩|⟨B,_,_,h⟩ <;>
  simp[execOp,ho,h,resolve,invoke,builtin,Builtin.len_,run_underlying hu,goInt]
def Stp.lenN {T d e z' by_:Nat}{x:Operand}(ho:o.op=.call { callee:=.builtin .len,args:=#[x],argTypes:=#[T] })(O:o.dst=X d)(hn:B_ d C)
  (hx:Y.opd x=X (.lit (.slice n_ 0 0))) (h:XZ P T=X (e,z',by_)):Stp P C o Y (Y.put d (.i .i64 0)):=by
 refine Stp.same O hn λZ a w hr=>?_;obtain⟨hu,_⟩:=Jq h;refine⟨.int .i64 0,?_,.dat (.i _ _)⟩;simp[execOp,ho,(hr.opd hx).lit_inv,resolve,invoke,builtin,Builtin.len_,run_underlying hu,goInt]
def Stp.lenStr {T d:Nat}{x:Operand}{s:ByteArray}(ho:o.op=.call { callee:=.builtin .len,args:=#[x],argTypes:=#[T] })(O:o.dst=X d)(hn:B_ d C)
  (hx:Y.opd x=X (.s s)) (h:QeX P T=t_):Stp P C o Y (Y.put d (.i .i64 s.size)):=by
 refine Stp.same O hn λZ a w hr=>?_;refine⟨.int .i64 s.size,?_,.dat (.i _ _)⟩;simp[execOp,ho,(hr.opd hx).s_inv,resolve,invoke,builtin,Builtin.len_,run_underlying (Vo h),goInt]
end
section
variable {P:Program}{C:Xs}{Y:St}{o:Oper}
def FX {T:Nat}{zs:L_ V}(h:Xm P T=X zs):∃i z,P.info? T=X i/\i.zero=X z/\z.cells.toList.map Bh=zs:=by
 unfold Xm at h;split at h
 ·rename_i i hi;split at h
  ·rename_i z O;cases h;exact⟨i,z,hi,O,rfl⟩
  cases h
 cases h
def QqT (z:Array Value)(n k:Nat)(h:k<n):(madeCells z n)[k]? = X (z[k % z.size]!):=by
 simp[madeCells,h]
def Stp.make {T d e z by_:Nat}{x y:Operand}{zs:L_ V}{k k':IntKind}{l c:Int}(ho:o.op=.makeSlice T x y)(hd:o.dst=X d)(hn:B_ d C)
  (hx:Y.opd x=X (.i k l)) (hy:Y.opd y=X (.i k' c)) (hT:XZ P T=X (e,z,by_)) (hz:Xm P e=X zs) (hzl:zs.length=z) (hz0:z≠0) (hone:zs.all V.one=t_)
  (h0:0<=l) (hlc:l<=c) (hby:by_<=32768) (hc:c<=4294967296) (hf:look Y.hp d=n_):
  Stp P C o Y ((Y.set d (.arr z (List.replicate l.toNat zs))).put d (.own d l.toNat)):=by
 refine Stp.val λZ a w hr=>?_;obtain⟨hu,i,hi,hiz,hib⟩:=Jq hT;obtain⟨i',zv,hi',hz',O⟩:=FX hz;rw[hi]at hi';cases hi';have hzs:zv.cells.size=z:=by rw[<-hzl,<-O];simp
 have h:(i.bytes:Int)*c<=281474976710656:=by
  rw[hib];have h1:(by_:Int)*c<=32768*c:=Int.mul_le_mul_of_nonneg_right (by omega) (by omega);omega
 have hrun:=run_make (P:=P) w T e i zv hu hi hz' k k' l c h0 hlc h (by omega);rw[hiz]at hrun;have hN:=hr.none_of_look hf;refine⟨.slice (X ⟨w.heap.size,0,n_⟩) l.toNat c.toNat,w.alloc (.cells (madeCells zv.cells (c.toNat*z)) e),ext Z d ⟨w.heap.size,c.toNat,z,[],0⟩,?_,?_⟩
 ·simp only[execOp,ho,(hr.opd hx).i_inv,(hr.opd hy).i_inv,Xh,hrun,Xp,Xq]
 have hle:l.toNat<=c.toNat:=by omega
 have hnew:=hr.alloc (cap:=c.toNat) (z:=z) hf (C.slot hn) (ob:=.arr z (List.replicate l.toNat zs)) (obj:=.cells (madeCells zv.cells (c.toNat*z)) e)
  (Yc.mk0 rfl rfl (by simpa using hle) (λr hr'=>by
   obtain⟨_,rfl⟩:=List.mem_replicate.1 hr';exact⟨hzl,λv hv=>by rw[XM]at hone;exact hone v hv⟩) _ e (heap_alloc_new w _) (size_madeCells _ _) λm r hm j v hv=>by
   obtain⟨hm1,rfl⟩:m<l.toNat/\zs=r:=by
    have:=QX.1 hm;obtain⟨h1,h2⟩:=this;simp at h1 h2;exact⟨by omega,h2⟩
   have hj:j<z:=by rw[<-hzl];exact(QX.1 hv).1
   have hlt:m*z+j<c.toNat*z:=by
    have:(m+1)*z<=c.toNat*z:=Ys _ (by omega);rw[YS]at this;omega
   refine⟨_,QqT _ _ _ hlt,?_⟩;have hmod:(m*z+j) % zv.cells.size=j:=by rw[hzs,Nat.mul_comm,Nat.mul_add_mod,Nat.mod_eq_of_lt hj]
   rw[hmod];have hjs:j<zv.cells.size:=by omega
   have:v=Bh zv.cells[j]:=by
    rw[<-O]at hv;simp[hjs]at hv;exact hv.symm
   subst this;rw[getElem!_pos zv.cells j hjs];exact XJ.const _)
 rw[hd];refine hnew.put (Xv hn) ?_;exact .own d l.toNat ⟨w.heap.size,c.toNat,z,[],0⟩ (Xb _ _ _) hle
def Uy (h:Nat->O_ (Nat×Nat))(O:L_ V):S_->O_ (L_ V)
 |[]=>X O|(i,v)::rest=>match h i with|none=>n_|some (off,n)=>bif Nat.beq v.cells.length n&&Nat.ble (off+n) O.length then Uy h (Wb O off v.cells) rest else n_
def V.isV : V->Bool
 |.agg _=>t_|v=>v.one
def V.isV_or {v:V}(h:v.isV=t_):v.one=t_\/∃O,v=.agg O:=by
 cases v<;>first|exact .inl h|exact .inr ⟨_,rfl⟩
def QuB (off:Nat):∀(vs:L_ Value) (k:Nat) (O:Array Value),off+k+vs.length<=O.size->
  ((vs.zipIdx k).foldl (λ(O:Array Value) (p:Value×Nat)=>O.setIfInBounds (off+p.2) p.1) O).toList=O.toList.take (off+k)++vs++O.toList.drop (off+k+vs.length):=by
 intro vs
 induction vs with
 |nil=>intro k O _;simp|cons v vs ih=>
  intro k O h;simp only[DU]at h;rw[List.zipIdx_cons,List.foldl_cons,ih (k+1) _ (by simp;omega)];have h1:off+k<O.toList.length:=by simp;omega
  simp only[Array.toList_setIfInBounds];rw[show off+(k+1)=off+k+1 by omega];rw[List.take_set,List.drop_set];have h2:off+k<(O.toList.take (off+k+1)).length:=by simp;omega
  rw[if_pos (by omega)];rw[Qby h1,List.set_append_right _ _ (by simp;omega),show off+k-(List.take (off+k) O.toList).length=0 by simp;omega];simp only[List.set_cons_zero,WC,List.cons_append,Qd6,DU];congr 3;congr 1;omega
def Qv2 {Z:Nat->O_ QV}{I:Nat->Prop}{w:World}{place:Nat->O_ (Nat×Nat)}:∀(ps:L_ (Nat×Value)) (qs:S_) (xs:Array Value) (cs cs':L_ V),
  ps.length=qs.length->(∀(j:Nat) p q,ps[j]? = X p->qs[j]? = X q->p.1=q.1/\q.2.isV=t_/\QR Z I w p.2 q.2)->
  xs.size=cs.length->(∀(j:Nat) x v,xs[j]? = X x->cs[j]? = X v->QR Z I w x v)->Uy place cs qs=X cs'->
  ∃xs',Instr.fill place xs ps=X xs'/\xs'.size=cs'.length/\∀(j:Nat) x v,xs'[j]? = X x->cs'[j]? = X v->QR Z I w x v:=by
 intro ps
 induction ps with
 |nil=>
  intro qs xs cs cs' hl _ hs hr hf;cases qs with|cons=>simp at hl|nil=>simp only[Uy,Option.some.injEq]at hf;subst hf;exact⟨xs,rfl,hs,hr⟩
 |cons p ps ih=>
  intro qs xs cs cs' hl hp hs hr hf;cases qs with
  |nil=>simp at hl|cons q qs=>
   obtain⟨i,x⟩:=p;obtain⟨i',v⟩:=q;obtain⟨h1,h2,h3⟩:=hp 0 (i,x) (i',v) rfl rfl;dsimp only at h1 h2 h3;subst h1;simp only[Uy]at hf;cases hpl:place i with
   |none=>rw[hpl]at hf;cases hf
   |some on=>
    obtain⟨off,n⟩:=on;rw[hpl]at hf;dsimp only at hf;cases hb:(Nat.beq v.cells.length n&&Nat.ble (off+n) cs.length)with
    |false=>rw[hb]at hf;cases hf
    |true=>
     rw[hb]at hf;rw[QL]at hb;have hb1:=Yr hb.1;have hb2:=JT hb.2;obtain⟨hcs,hc⟩:=h3.cells (V.isV_or h2);have h:=QuB off x.cells.toList 0 xs (by simp;omega);simp only[PO]at h;simp only[Instr.fill,hpl];rw[if_neg (by simp;omega)];refine ih qs _ _ cs' (by simpa using hl) (λj p q h1 h2=>hp (j+1) p q h1 h2) ?_ ?_ hf
     ·have:=congrArg List.length h;simp only[Array.length_toList,<-Array.foldl_toList,Array.toList_zipIdx]at this ⊢;rw[this];simp[Wb];omega
     intro j y u hy hu;have O:(xs.toList.take off++x.cells.toList++xs.toList.drop (off+x.cells.toList.length))[j]? = X y:=by
      rw[<-h,<-hy];simp only[<-Array.foldl_toList,Array.toList_zipIdx,Sv]
     rw[Wb]at hu;simp only[Array.length_toList]at O;by_cases hj:j<off
     ·rw[WC,Yp (by simp;omega),YQ,if_pos hj]at O hu;exact hr j y u (by simpa using O) hu
     by_cases hj2:j<off+n
     ·rw[Yp (by simp;omega),YJ (by simp;omega)]at O hu;refine hc (j-off) y u ?_ ?_
      ·rw[<-O];simp;congr 1;omega
      rw[<-hu];simp;congr 1;omega
     rw[YJ (by simp;omega)]at O hu;refine hr j y u ?_ ?_
     ·rw[<-O];simp;congr 1;omega
     rw[<-hu];simp;congr 1;omega
def QgV (P:Program)(T:TypeId):O_ (L_ (Nat×Nat)):=
 match P.underlying T with
 |some (.struct fs)=>fs.toList.mapM λf=>match P.info? f.type with|some i=>X (f.offset,i.size)|none=>n_
 |_=>n_
def QtA : ∀(fs:L_ Field) (O:L_ (Nat×Nat)) (w:World),(fs.mapM λf=>match P.info? f.type with|some i=>X (f.offset,i.size)|none=>n_)=X O->
  (fs.mapM λf=>do pure (f.offset,<-sizeOf f.type):Sem (L_ (Nat×Nat))).run P w=.ok O w:=by
 intro fs
 induction fs with
 |nil=>intro O w h;simp at h;subst h;simp|cons f fs ih=>
  intro O w h;rw[List.mapM_cons]at h;cases hi:P.info? f.type with
  |none=>simp[hi]at h|some i=>
   simp only[hi,Option.bind_eq_bind,Qh,Pg,Option.pure_def,Option.some.injEq]at h;obtain⟨ps',h1,rfl⟩:=h;have:=ih ps' w h1;simp only[List.mapM_cons,Xh,sizeOf,typeInfo,run_program,Xp,hi,Xq]at this ⊢;rw[this];rfl
def St.opds (Y:St):L_ (Nat×Operand)->O_ S_
 |[]=>X []|(i,x)::r=>match Y.opd x,Y.opds r with|some v,X vs=>X ((i,v)::vs)|_,_=>n_
def RR.opds {Z:Nat->O_ QV}{a:Act}{w:World}(h:RR C Z Y a w):∀(ps:L_ (Nat×Operand)) (qs:S_),Y.opds ps=X qs->
  ps.length=qs.length/\∀(j:Nat) p q,(ps.map λp=>(p.1,a.eval p.2))[j]? = X p->qs[j]? = X q->p.1=q.1/\QR Z (Xc C Z w) w p.2 q.2:=by
 intro ps
 induction ps with
 |nil=>intro qs O;simp only[St.opds,Option.some.injEq]at O;subst O;simp|cons p ps ih=>
  intro qs O;obtain⟨i,x⟩:=p;simp only[St.opds]at O;split at O
  ·rename_i v vs hv hvs;cases O;obtain⟨h1,h2⟩:=ih vs hvs;refine⟨by simp[h1],λj p q hp hq'=>?_⟩;cases j with|zero=>simp at hp hq';subst hp;subst hq';exact⟨rfl,h.opd hv⟩|succ j=>exact h2 j p q hp hq'
  cases O
def RR.fill {Z:Nat->O_ QV}{a:Act}{w:World}(hr:RR C Z Y a w){h:Nat->O_ (Nat×Nat)}{ps:L_ (Nat×Operand)}{qs:S_}{z:Array Value}{vs:L_ V}
  (hq:Y.opds ps=X qs) (hv:qs.all (λq=>q.2.isV)=t_) (hf:Uy h (z.toList.map Bh) qs=X vs):
  ∃O,Instr.fill h z (ps.map λp=>(p.1,a.eval p.2))=X O/\O.size=vs.length/\∀(j:Nat) x v,O[j]? = X x->vs[j]? = X v->QR Z (Xc C Z w) w x v:=by
 obtain⟨h1,h2⟩:=hr.opds ps qs hq;refine Qv2 _ qs z _ vs (by simpa using h1) (λj p q hp hq'=>?_) (by simp) (λj x v hx hv'=>?_) hf
 ·obtain⟨h3,h4⟩:=h2 j p q hp hq';exact⟨h3,by rw[XM]at hv;exact hv q (XG hq'),h4⟩
 simp[hx]at hv';subst hv';exact .dat (XJ.const _)
def Stp.build {T d:Nat}{h:Array (Nat×Operand)}{pl:L_ (Nat×Nat)}{zs vs:L_ V}{qs:S_}(ho:o.op=.build T h)(hd:o.dst=X d)(hn:B_ d C)
  (hz:Xm P T=X zs) (O:QgV P T=X pl) (hq:Y.opds h.toList=X qs) (hv:qs.all (λq=>q.2.isV)=t_)
  (hf:Uy (pl[·]?) zs qs=X vs):Stp P C o Y (Y.put d (.agg vs)):=by
 refine Stp.same hd hn λZ a w hr=>?_;obtain⟨i,z,hi,hz',rfl⟩:=FX hz;unfold QgV at O;split at O
 ·rename_i fs hfs;have hrun:=QtA (P:=P) fs.toList pl w O;obtain⟨xs',h1,h2,h3⟩:=hr.fill hq hv hf;refine⟨.agg xs',?_,.agg _ _ h2 h3⟩;have hm:(fs.mapM λf=>do pure (f.offset,<-sizeOf f.type):Sem (Array (Nat×Nat))).run P w=.ok pl.toArray w:=by
   rw[Array.mapM_eq_mapM_toList,Sem.run_map,hrun];rfl
  have e:(λx:Nat=>pl.toArray[x]?)=λx:Nat=>pl[x]? := by funext x;simp
  have e2:(h.map λp=>(p.1,a.eval p.2)).toList=h.toList.map λp=>(p.1,a.eval p.2):=by simp
  simp only[execOp,ho,Instr.build,Xh,zeroValue,typeInfo,run_program,Xp,hi,hz',Xq,run_underlying hfs,hm,e,e2,h1]
 cases O
def Stp.buildA {T d n z:Nat}{h:Array (Nat×Operand)}{zs vs:L_ V}{qs:S_}(ho:o.op=.build T h)(hd:o.dst=X d)(hn:B_ d C)
  (hz:Xm P T=X zs) (hT:SC P T=X (n,z)) (hq:Y.opds h.toList=X qs) (hv:qs.all (λq=>q.2.isV)=t_)
  (hf:Uy (λi=>X (i*z,z)) zs qs=X vs):Stp P C o Y (Y.put d (.agg vs)):=by
 refine Stp.same hd hn λZ a w hr=>?_;obtain⟨i,zv,hi,O,rfl⟩:=FX hz;obtain⟨e,hu,j,hj,rfl⟩:=ZG hT;obtain⟨xs',h1,h2,h3⟩:=hr.fill hq hv hf;refine⟨.agg xs',?_,.agg _ _ h2 h3⟩;have e2:(h.map λp=>(p.1,a.eval p.2)).toList=h.toList.map λp=>(p.1,a.eval p.2):=by simp
 simp only[execOp,ho,Instr.build,Xh,zeroValue,typeInfo,run_program,Xp,hi,O,Xq,run_underlying hu,sizeOf,hj,e2,h1]
def Ic (z:Nat):Nat->L_ V->L_ (L_ V)
 |0,_=>[]|n+1,h=>h.take z::Ic z n (h.drop z)
def Bi (z n:Nat)(h:L_ V):(Ic z n h).length=n:=by
 induction n generalizing h with|zero=>rfl|succ n O=>simp[Ic,O]
def Qbz (z:Nat):∀(n:Nat) (O:L_ V) (i:Nat),i<n->(Ic z n O)[i]? = X ((O.drop (i*z)).take z):=by
 intro n
 induction n with
 |zero=>intro O i h;omega|succ n ih=>
  intro O i h;cases i with|zero=>simp[Ic]|succ i=>simp only[Ic,QgO];rw[ih _ i (by omega),List.drop_drop,YS];congr 3;omega
def QgW (zv:Array Value)(n z:Nat)(O:zv.size=z)(h0:z≠0):((Array.range (n*z)).map (zv[· % zv.size]!)).toList.map Bh=((List.range (n*z)).map λk=>(zv.toList.map Bh).getD (k % z) .J):=by
 simp only[Array.toList_map,Array.toList_range,Zi];apply List.map_congr_left;intro k hk;have h:k % zv.size<zv.size:=Nat.mod_lt _ (by omega);simp only[Function.comp,<-O];rw[getElem!_pos zv (k % zv.size) h];simp[h]
def Stp.buildSlice {T d e z by_ n:Nat}{O:Array (Nat×Operand)}{zs vs:L_ V}{qs:S_}{rs:L_ (L_ V)}(ho:o.op=.buildSlice T n O)(hd:o.dst=X d)(hn:B_ d C)
  (hT:XZ P T=X (e,z,by_)) (hz:Xm P e=X zs) (hzl:zs.length=z) (hz0:z≠0) (hbig:n*z<=16777216) (hq:Y.opds O.toList=X qs) (hv:qs.all (λq=>q.2.isV)=t_)
  (hf:Uy (λi=>X (i*z,z)) ((List.range (n*z)).map λk=>zs.getD (k % z) .J) qs=X vs) (hone:vs.all V.one=t_) (hdat:vs.all V.dat=t_) (hrs:Ic z n vs=rs)
  (hfr:look Y.hp d=n_):Stp P C o Y ((Y.set d (.arr z rs)).put d (.own d n)):=by
 refine Stp.val λZ a w hr=>?_;obtain⟨hu,i,hi,rfl,_⟩:=Jq hT;obtain⟨i',zv,hi',hz',rfl⟩:=FX hz;rw[hi]at hi';cases hi';have hzs:zv.cells.size=i.size:=by simpa using hzl
 have hpos:0<i.size:=Nat.pos_of_ne_zero hz0;rw[<-QgW zv.cells n i.size hzs hz0]at hf;obtain⟨xs',h1,h2,h3⟩:=hr.fill hq hv hf;have hvl:vs.length=n*i.size:=by
  have key:∀(qs:S_) (cs cs':L_ V) (pl:Nat->O_ (Nat×Nat)),Uy pl cs qs=X cs'->cs'.length=cs.length:=by
   intro qs
   induction qs with
   |nil=>intro cs cs' pl h;simp only[Uy,Option.some.injEq]at h;rw[h]|cons q qs ih=>
    intro cs cs' pl h;obtain⟨k,v⟩:=q;simp only[Uy]at h;split at h
    ·cases h
    rename_i off m _;cases hb:(Nat.beq v.cells.length m&&Nat.ble (off+m) cs.length)with
    |false=>rw[hb]at h;cases h
    |true=>
     rw[hb]at h;rw[QL]at hb;have hb1:=Yr hb.1;have hb2:=JT hb.2;rw[ih _ _ _ h];simp[Wb];omega
  rw[key _ _ _ _ hf];simp
 subst hrs;refine⟨.slice (X ⟨w.heap.size,0,n_⟩) n n,w.alloc (.cells xs' e),ext Z d ⟨w.heap.size,n,i.size,[],0⟩,?_,?_⟩
 ·have e2:(O.map λp=>(p.1,a.eval p.2)).toList=O.toList.map λp=>(p.1,a.eval p.2):=by simp
  have hb:¬(n*i.size > 2 ^ 24):=by omega
  by_cases hn0:n*i.size=0
  ·have hn1:n=0:=by rcases Nat.mul_eq_zero.1 hn0 with h|h<;>omega
   subst hn1;simp only[Ib]at h1;rw[Qo4,Array.map_empty]at h1;simp only[execOp,ho,Instr.buildSlice,Xh,run_underlying hu,Xp,sizeOf,typeInfo,run_program,hi,Xq,Ib,if_true,e2,Qo4,Array.map_empty];simp[h1,newRow]
  simp only[execOp,ho,Instr.buildSlice,Xh,run_underlying hu,Xp,sizeOf,typeInfo,run_program,hi,Xq,if_neg hb,if_neg hn0,zeroValue,hz',e2,h1,newRow,run_newObj];simp
 have hN:=hr.none_of_look hfr;have hnew:=hr.alloc (cap:=n) (z:=i.size) hfr (C.slot hn) (ob:=.arr i.size (Ic i.size n vs)) (obj:=.cells xs' e)
  (Yc.mk0 rfl rfl (by rw[Bi];exact YK _) (λr hr'=>by
   obtain⟨j,hj⟩:=List.getElem?_of_mem hr';have hjn:j<n:=by have:=(QX.1 hj).1;rwa[Bi]at this
   rw[Qbz _ _ _ _ hjn]at hj;cases hj;have:(j+1)*i.size<=n*i.size:=Ys _ hjn;rw[YS]at this;refine⟨by simp;omega,λv hv=>?_⟩;rw[XM]at hone;exact hone v (Nr (DV hv))) _ e (heap_alloc_new w _) (by rw[h2,hvl]) λm r hm j v hv'=>by
   have hmn:m<n:=by have:=(QX.1 hm).1;rwa[Bi]at this
   rw[Qbz _ _ _ _ hmn]at hm;cases hm;rw[YQ]at hv';have hjz:j<i.size:=by
    rcases DX j i.size with h|h
    ·exact h
    rw[if_neg (by omega)]at hv';simp at hv'
   rw[if_pos hjz,WP]at hv';have hlt:m*i.size+j<xs'.size:=by rw[h2];exact(QX.1 hv').1
   refine⟨xs'[m*i.size+j],GR hlt,?_⟩;have hD:=(h3 _ _ v (GR hlt) hv').toDat (by rw[XM]at hdat;exact hdat v (XG hv'));exact hD.mono (hr.imm_alloc d n i.size _ hN))
 rw[hd];refine hnew.put (Xv hn) ?_;exact .own d n ⟨w.heap.size,n,i.size,[],0⟩ (Xb _ _ _) (YK _)
end
def den1 : O_ Nat->V->V
 |some z,.lit (.slice n_ 0 0)=>.sl z []|_,v=>v
def DZ : L_ (O_ Nat)->L_ V->L_ V
 |m::ms,v::vs=>den1 m v::DZ ms vs|_,vs=>vs
def V.denil (ms:L_ (O_ Nat)):V->V
 |.agg h=>.agg (DZ ms h)|.tup h=>.tup (DZ ms h)|v=>den1 (ms.headD n_) v
section
variable {Z:Nat->O_ QV}{I:Nat->Prop}{w:World}{x:Value}{v:V}
def QR.den1 {m:O_ Nat}(h:QR Z I w x v):QR Z I w x (Vm.den1 m v):=by
 unfold Vm.den1;split
 ·rw[h.lit_inv];exact .dat (.sl0 _ _ _)
 exact h
def QgX : ∀(ms:L_ (O_ Nat)) (vs:L_ V),(DZ ms vs).length=vs.length:=by
 intro ms
 induction ms with
 |nil=>intro vs;cases vs<;>rfl
 |cons m ms h=>intro vs;cases vs with|nil=>rfl|cons v vs=>simp[DZ,h vs]
def Qca : ∀(ms:L_ (O_ Nat)) (vs:L_ V) (j:Nat) (u:V),(DZ ms vs)[j]? = X u->∃m v,vs[j]? = X v/\u=Vm.den1 m v:=by
 intro ms
 induction ms with
 |nil=>intro vs j u h;cases vs<;>exact⟨n_,u,h,rfl⟩
 |cons m ms O=>
  intro vs j u h;cases vs with
  |nil=>simp[DZ]at h|cons v vs=>
   cases j with|zero=>simp[DZ]at h;exact⟨m,v,rfl,h.symm⟩|succ j=>simp[DZ]at h;exact O vs j u h
def QR.denil {ms:L_ (O_ Nat)}(h:QR Z I w x v):QR Z I w x (v.denil ms):=by
 unfold V.denil;split
 ·obtain⟨xs,rfl,hs,O⟩:=h.agg_inv;refine .agg xs _ (by rw[QgX];exact hs) λj y u hy hu=>?_;obtain⟨m,v,hv,rfl⟩:=Qca _ _ j u hu;exact(O j y v hy hv).den1
 ·obtain⟨xs,rfl,hs,O⟩:=h.tup_inv;refine .tup xs _ (by rw[QgX];exact hs) λj y u hy hu=>?_;obtain⟨m,v,hv,rfl⟩:=Qca _ _ j u hu;exact(O j y v hy hv).den1
 exact h.den1
end
section
variable {P:Program}{C:Xs}{Y:St}{o:Oper}
def Stp.buildSliceD {T d e z by_ n:Nat}{parts:Array (Nat×Operand)}{zs vs:L_ V}{qs:S_}{rs:L_ (L_ V)}(ms:L_ (O_ Nat))(ho:o.op=.buildSlice T n parts)(hd:o.dst=X d)(hn:B_ d C)
  (hT:XZ P T=X (e,z,by_)) (hz:Xm P e=X zs) (hzl:zs.length=z) (hz0:z≠0) (hbig:n*z<=16777216) (hq:Y.opds parts.toList=X qs) (hv:qs.all (λq=>q.2.isV)=t_)
  (hf:Uy (λi=>X (i*z,z)) ((List.range (n*z)).map λk=>zs.getD (k % z) .J) qs=X vs) (hone:(DZ ms vs).all V.one=t_) (hdat:(DZ ms vs).all V.dat=t_) (hrs:Ic z n (DZ ms vs)=rs):Stp P C o Y (Y.put d (.sl z rs)):=by
 refine Stp.val λZ a w hr=>?_;obtain⟨hu,i,hi,rfl,_⟩:=Jq hT;obtain⟨i',zv,hi',hz',rfl⟩:=FX hz;rw[hi]at hi';cases hi';have hzs:zv.cells.size=i.size:=by simpa using hzl
 have hpos:0<i.size:=Nat.pos_of_ne_zero hz0;rw[<-QgW zv.cells n i.size hzs hz0]at hf;obtain⟨O,h1,h2,h3⟩:=hr.fill hq hv hf;have hvl:vs.length=n*i.size:=by
  have key:∀(qs:S_) (cs cs':L_ V) (pl:Nat->O_ (Nat×Nat)),Uy pl cs qs=X cs'->cs'.length=cs.length:=by
   intro qs
   induction qs with
   |nil=>intro cs cs' pl h;simp only[Uy,Option.some.injEq]at h;rw[h]|cons q qs ih=>
    intro cs cs' pl h;obtain⟨k,v⟩:=q;simp only[Uy]at h;split at h
    ·cases h
    rename_i off m _;cases hb:(Nat.beq v.cells.length m&&Nat.ble (off+m) cs.length)with
    |false=>rw[hb]at h;cases h
    |true=>
     rw[hb]at h;rw[QL]at hb;have hb1:=Yr hb.1;have hb2:=JT hb.2;rw[ih _ _ _ h];simp[Wb];omega
  rw[key _ _ _ _ hf];simp
 subst hrs;refine⟨.slice (X ⟨w.heap.size,0,n_⟩) n n,w.alloc (.cells O e),Z,?_,?_⟩
 ·have e2:(parts.map λp=>(p.1,a.eval p.2)).toList=parts.toList.map λp=>(p.1,a.eval p.2):=by simp
  have hb:¬(n*i.size > 2 ^ 24):=by omega
  by_cases hn0:n*i.size=0
  ·have hn1:n=0:=by rcases Nat.mul_eq_zero.1 hn0 with h|h<;>omega
   subst hn1;simp only[Ib]at h1;rw[Qo4,Array.map_empty]at h1;simp only[execOp,ho,Instr.buildSlice,Xh,run_underlying hu,Xp,sizeOf,typeInfo,run_program,hi,Xq,Ib,if_true,e2,Qo4,Array.map_empty];simp[h1,newRow]
  simp only[execOp,ho,Instr.buildSlice,Xh,run_underlying hu,Xp,sizeOf,typeInfo,run_program,hi,Xq,if_neg hb,if_neg hn0,zeroValue,hz',e2,h1,newRow,run_newObj];simp
 have hold:∀k,k<w.heap.size->(w.alloc (.cells O e)).heap[k]? = w.heap[k]? := λk hk=>heap_alloc_old w _ hk;have hst:=hr.step (w':=w.alloc (.cells O e)) rfl rfl rfl (by simp) hold;have hnewI:Xc C Z (w.alloc (.cells O e)) w.heap.size:=⟨by simp,λh=>absurd hr.size (by omega),λo B hB hk=>absurd (hr.lt o B _ hB hk).1 (Nat.lt_irrefl _)⟩;have hI:∀k,Xc C Z w k->Xc C Z (w.alloc (.cells O e)) k/\(w.alloc (.cells O e)).heap[k]? = w.heap[k]? := λk hk=>⟨⟨AE hk.1 (by simp),hk.2⟩,hold k hk.1⟩;rw[hd];refine hst.put (Xv hn) (.dat (.sl w.heap.size 0 n n i.size (Ic i.size n (DZ ms vs)) (λj=>O.getD j undef) hnewI (Bi _ _ _).symm (YK _) (λr hr'=>?_) (λj hj=>?_) (λm r hm j v hv'=>?_)))
 ·obtain⟨j,hj⟩:=List.getElem?_of_mem hr';have hjn:j<n:=by have:=(QX.1 hj).1;rwa[Bi]at this
  rw[Qbz _ _ _ _ hjn]at hj;cases hj;have:(j+1)*i.size<=n*i.size:=Ys _ hjn;rw[YS]at this;refine⟨by simp[QgX];omega,λv hv=>?_⟩;rw[XM]at hone;exact hone v (Nr (DV hv))
 ·have:j<O.size:=by omega
  have hh:=heap_alloc_new w (.cells O e);simp only[World.cell?,hh];simp[Array.getD,this]
 have hmn:m<n:=by have:=(QX.1 hm).1;rwa[Bi]at this
 rw[Qbz _ _ _ _ hmn]at hm;cases hm;rw[YQ]at hv';have hjz:j<i.size:=by
  rcases DX j i.size with h|h
  ·exact h
  rw[if_neg (by omega)]at hv';simp at hv'
 rw[if_pos hjz,WP]at hv';obtain⟨mm,v0,hv0,hvv⟩:=Qca _ _ _ _ hv';have hlt:m*i.size+j<O.size:=by rw[h2];exact(QX.1 hv0).1
 have hR:QR Z (Xc C Z w) w O[m*i.size+j] v:=by rw[hvv];exact(h3 _ _ v0 (GR hlt) hv0).den1
 have hD:=hR.toDat (by rw[XM]at hdat;exact hdat v (XG hv'));have:O.getD (m*i.size+j) undef=O[m*i.size+j]:=by simp[Array.getD,hlt]
 rw[this];exact hD.mono hI
end
def V.freeN : Nat->Nat->V->Bool
 |_,q,.own o _=>!(Nat.beq o q)|_,q,.tl o _ _=>!(Nat.beq o q)|_,q,.loc o _ _=>!(Nat.beq o q)|_,q,.map o=>!(Nat.beq o q)|0,_,.agg h=>h.all V.plain|n+1,q,.agg h=>h.all (V.freeN n q)|0,_,.tup _=>f_|n+1,q,.tup h=>h.all (V.freeN n q)|0,_,.clo _ _ _=>f_|n+1,q,.clo _ fs h=>fs.all (V.freeN n q)&&h.all (V.freeN n q)|0,_,.ifc _ _=>f_|n+1,q,.ifc _ x=>V.freeN n q x|_,_,_=>t_
def V.freeC (b:Nat)(v:V):Bool:=V.freeN 4 b v
def V.free (b:Nat)(v:V):Bool:=V.freeN 5 b v
def V.kill (b:Nat)(v:V):V:=bif v.free b then v else .J
def V.killC (b:Nat)(v:V):V:=bif v.freeC b then v else .J
def Eo {a b:Nat}(h:(!(Nat.beq a b))=t_):a≠b:=by
 intro e;subst e;simp at h
section
variable {Z φ':Nat->O_ QV}{I I':Nat->Prop}{w w':World}
def QR.freeN {b:Nat}(hφ:∀o B,o≠b->Z o=X B->φ' o=X B)(hI:∀k,I k->I' k/\w'.heap[k]? = w.heap[k]?):∀(n:Nat) {x:Value} {v:V},QR Z I w x v->V.freeN n b v=t_->QR φ' I' w' x v:=by
 have leaf:∀{x:Value} {v:V},QR Z I w x v->V.freeN 0 b v=t_->QR φ' I' w' x v:=by
  intro x v h O;cases h with|dat h=>exact .dat (h.mono hI)|own0 o=>exact .own0 o|own o n B hB hn=>exact .own o n B (hφ o B (Eo O) hB) hn|tl0 o k c a=>exact .tl0 o k c a|tl o k n c B hB=>exact .tl o k n c B (hφ o B (Eo O) hB)|loc o i d B hB=>exact .loc o i d B (hφ o B (Eo O) hB)|map o B hB=>exact .map o B (hφ o B (Eo O) hB)|agg xs cs hs hr=>exact .dat ((QR.aggPlain hs hr O).mono hI)|_=>simp[V.freeN]at O
 intro n
 induction n with
 |zero=>exact leaf|succ n ih=>
  intro x v h O;cases v with
  |agg cs=>
   obtain⟨xs,rfl,hs,hr⟩:=h.agg_inv;rw[V.freeN,XM]at O;exact .agg xs cs hs λj x v hx hv'=>ih (hr j x v hx hv') (O v (XG hv'))
  |tup cs=>
   obtain⟨xs,rfl,hs,hr⟩:=h.tup_inv;rw[V.freeN,XM]at O;exact .tup xs cs hs λj x v hx hv'=>ih (hr j x v hx hv') (O v (XG hv'))
  |clo fn vs us=>
   obtain⟨xs,ys,rfl,h1,h2,h3,h4⟩:=h.clo_inv;rw[V.freeN,QL,XM,XM]at O;exact .clo fn xs ys vs us h1 h2 (λj x v hx hv'=>ih (h3 j x v hx hv') (O.1 v (XG hv'))) λj x v hx hv'=>ih (h4 j x v hx hv') (O.2 v (XG hv'))
  |ifc t u=>
   obtain⟨y,rfl,hr⟩:=h.ifc_inv;rw[V.freeN]at O;exact .ifc t y u (ih hr O)
  |own o k=>exact leaf h (by rw[V.freeN]at O ⊢;exact O)|tl o k n=>exact leaf h (by rw[V.freeN]at O ⊢;exact O)|loc o i d=>exact leaf h (by rw[V.freeN]at O ⊢;exact O)|map o=>exact leaf h (by rw[V.freeN]at O ⊢;exact O)|_=>exact leaf h rfl
def QR.freeC {b:Nat}(hφ:∀o B,o≠b->Z o=X B->φ' o=X B)(O:∀k,I k->I' k/\w'.heap[k]? = w.heap[k]?){x:Value}{v:V}(h:QR Z I w x v)(hv:v.freeC b=t_):
  QR φ' I' w' x v:=QR.freeN hφ O 4 h hv
def QR.freeV {b:Nat}(hφ:∀o B,o≠b->Z o=X B->φ' o=X B)(O:∀k,I k->I' k/\w'.heap[k]? = w.heap[k]?){x:Value}{v:V}(h:QR Z I w x v)(hv:v.free b=t_):
  QR φ' I' w' x v:=QR.freeN hφ O 5 h hv
def QR.kill {b:Nat}(hφ:∀o B,o≠b->Z o=X B->φ' o=X B)(O:∀k,I k->I' k/\w'.heap[k]? = w.heap[k]?){x:Value}{v:V}(h:QR Z I w x v):QR φ' I' w' x (v.kill b):=by
 unfold V.kill;cases hv:v.free b with|true=>exact h.freeV hφ O hv|false=>exact .dat (.J x)
def QR.killC {b:Nat}(hφ:∀o B,o≠b->Z o=X B->φ' o=X B)(O:∀k,I k->I' k/\w'.heap[k]? = w.heap[k]?){x:Value}{v:V}(h:QR Z I w x v):QR φ' I' w' x (v.killC b):=by
 unfold V.killC;cases hv:v.freeC b with|true=>exact h.freeC hφ O hv|false=>exact .dat (.J x)
end
def Ob.kill (b:Nat):Ob->Ob
 |.var h=>.var (h.map (V.killC b))|.lp l K h q=>.lp l K (h.map (V.killC b)) q|ob=>ob
def Ie (b:Nat):S_->S_
 |[]=>[]|(t,v)::r=>(t,v.kill b)::Ie b r
def Ep (b:Nat):H_->H_
 |[]=>[]|(o,ob)::r=>bif Nat.beq o b then Ep b r else(o,ob.kill b)::Ep b r
def St.kill (Y:St)(b:Nat):St:=⟨Ie b Y.fr,Ep b Y.hp⟩
def IU {b:Nat}:∀(l:S_) (t:Nat) (v:V),look (Ie b l) t=X v->∃O,look l t=X O/\v=O.kill b:=by
 intro l
 induction l with
 |nil=>intro t v h;cases h
 |cons p l ih=>
  intro t v h;obtain⟨k,u⟩:=p;by_cases e:k=t
  ·subst e;rw[Ie,QB]at h;cases h;exact⟨u,QB _ _ _,rfl⟩
  rw[Ie,Qz _ _ e]at h;rw[Qz _ _ e];exact ih t v h
def Ju {b:Nat}:∀(l:H_) (t:Nat) (ob:Ob),look (Ep b l) t=X ob->t≠b/\∃ob',look l t=X ob'/\ob=ob'.kill b:=by
 intro l
 induction l with
 |nil=>intro t v h;cases h
 |cons p l ih=>
  intro t ob h;obtain⟨k,u⟩:=p;rw[Ep]at h;cases O:Nat.beq k b with
  |true=>
   rw[O]at h;have hk:=Yr O;obtain⟨h1,h2⟩:=ih t ob h;exact⟨h1,by rw[Qz _ _ (by omega)];exact h2⟩
  |false=>
   rw[O]at h;by_cases e:k=t
   ·subst e;simp only[Xn]at h;rw[QB]at h;cases h;exact⟨Eo (by rw[O];rfl),u,QB _ _ _,rfl⟩
   simp only[Xn]at h;rw[Qz _ _ e]at h;obtain⟨h1,h2⟩:=ih t ob h;exact⟨h1,by rw[Qz _ _ e];exact h2⟩
def Kj {b:Nat}:∀(l:H_) (t:Nat) (ob:Ob),t≠b->look l t=X ob->look (Ep b l) t=X (ob.kill b):=by
 intro l
 induction l with
 |nil=>intro t v _ h;cases h
 |cons p l ih=>
  intro t ob O h;obtain⟨k,u⟩:=p;rw[Ep];by_cases e:k=t
  ·subst e;rw[QB]at h;cases h;cases hb:Nat.beq k b with|true=>exact absurd (Yr hb) O|false=>simp only[Xn];exact QB _ _ _
  rw[Qz _ _ e]at h;cases hb:Nat.beq k b with|true=>simp only[Xi];exact ih t ob O h|false=>simp only[Xn];rw[Qz _ _ e];exact ih t ob O h
def Ga (Z:Nat->O_ QV)(b:Nat):Nat->O_ QV:=λk=>if k=b then n_ else Z k
def Vp (Z:Nat->O_ QV)(b:Nat):Ga Z b b=n_:=by simp[Ga]
def Wj {Z:Nat->O_ QV}{b k:Nat}(h:k≠b):Ga Z b k=Z k:=by simp[Ga,h]
def Kk {Z:Nat->O_ QV}{b k:Nat}{B:QV}(h:Ga Z b k=X B):k≠b/\Z k=X B:=by
 by_cases e:k=b
 ·subst e;rw[Vp]at h;cases h
 rw[Wj e]at h;exact⟨e,h⟩
def Jg.kill {Z φ':Nat->O_ QV}{I I':Nat->Prop}{w w':World}{b:Nat}(hφ:∀o B,o≠b->Z o=X B->φ' o=X B)(h:∀k,I k->I' k/\w'.heap[k]? = w.heap[k]?)
  {B:QV} (O:∀k,B.has k->w'.heap[k]? = w.heap[k]?) {ob:Ob} (d:Jg Z I w B ob):Jg φ' I' w' B (ob.kill b):=by
 cases ob with
 |var vs=>
  obtain⟨cs,E,h1,h2,h0,h3⟩:=d;refine⟨cs,E,(O _ B.self).trans h1,by simpa using h2,h0,λj x v hx hv=>?_⟩;rw[Ya]at hv;obtain⟨u,hu,rfl⟩:=Yf.1 hv;exact(h3 j x u hx hu).killC hφ h
 |lp l K vs q=>
  obtain⟨tmps,D,rfl,h1,h2,h3,h4⟩:=d;refine⟨tmps,D,rfl,h1,(O _ B.self).trans h2,by simpa using h3,λj x v hx hv=>?_⟩;rw[Ya]at hv;obtain⟨u,hu,rfl⟩:=Yf.1 hv;exact(h4 j x u hx hu).killC hφ h
 |arr z rs=>exact Yc.mono h (O _ B.self) d|map l=>exact Dz.mono h (O _ B.self) d|grp z l lk=>exact KP.mono h O d|mapX bm clock L l=>exact EI.mono h (O _ B.self) d|itr bm since seen cur=>exact ZC.mono (O _ B.self) d|itr0=>obtain⟨s,c,h1⟩:=d;exact⟨s,c,(O _ B.self).trans h1.1,h1.2⟩
 |tbl A z rs=>exact En.mono h O d|nst x v=>exact ZD.mono O d|scr D H=>exact ZE.mono O d
def Ob.Nil.kill {ob:Ob}{b:Nat}(h:ob.Nil):(ob.kill b).Nil:=by cases ob<;>first|exact h|exact h.elim
section
variable {C:Xs}{Z:Nat->O_ QV}{Y:St}{a:Act}{w:World}
def Xc.of_del {k b:Nat}(h:Xc C Z w k):Xc C (Ga Z b) w k:=⟨h.1,h.2.1,λo B O=>h.2.2 o B (Kk O).2⟩
def RR.kill (h:RR C Z Y a w)(b:Nat):RR C (Ga Z b) (Y.kill b) a w:=by
 have hI:∀k,Xc C Z w k->Xc C (Ga Z b) w k/\w.heap[k]? = w.heap[k]? := λk hk=>⟨hk.of_del,rfl⟩;have hφ:∀o B,o≠b->Z o=X B->Ga Z b o=X B:=λo B ho O=>by rw[Wj ho];exact O
 refine⟨h.os,h.tape,h.output,h.size,h.kept,λo o' B B' k h1 h2=>h.inj o o' B B' k (Kk h1).2 (Kk h2).2,?_,λo B k O=>h.lt o B k (Kk O).2,λo B k O=>h.new o B k (Kk O).2,⟨λo B h1 O=>h.stay.1 o B h1 (Kk O).2,λo ob B h1 ho O=>by obtain⟨hne,ob',h2,_⟩:=Ju _ _ _ ho;rw[Wj hne];exact h.stay.2 o ob' B h1 h2 O⟩,h.tmps,h.defers.mono hI,?_,?_⟩
 ·intro o B O;obtain⟨h1,h2⟩:=Kk O;obtain⟨ob,hob⟩:=h.dom o B h2;exact⟨_,Kj _ _ _ h1 hob⟩
 ·intro t v hv;obtain⟨v',hv',rfl⟩:=IU _ _ _ hv;obtain⟨x,hx,hr⟩:=h.frame t v' hv';exact⟨x,hx,hr.kill hφ hI⟩
 intro o ob hob;obtain⟨hne,ob',hob',rfl⟩:=Ju _ _ _ hob;rcases h.heap o ob' hob' with⟨B,O,hr⟩|⟨h1,hz⟩
 ·exact .inl ⟨B,hφ o B hne O,hr.kill hφ hI λ_ _=>rfl⟩
 exact .inr ⟨by rw[Wj hne];exact h1,hz.kill⟩
def RR.say (h:RR C Z Y a w){t:Nat}{x:Value}{v:V}(hx:a.tmps[t]? = X x)(hr:QR Z (Xc C Z w) w x v):RR C Z (Y.put t v) a w:=by
 refine⟨h.os,h.tape,h.output,h.size,h.kept,h.inj,h.dom,h.lt,h.new,h.stay,h.tmps,h.defers,?_,h.heap⟩;intro t' v' O;by_cases e:t=t'
 ·subst e;rw[St.put,QB]at O;cases O;exact⟨x,hx,hr⟩
 rw[St.put,Qz _ _ e]at O;exact h.frame t' v' O
def RR.setNil (h:RR C Z Y a w){b z:Nat}(hlt:b<639)(hb:look Y.hp b=n_):RR C Z (Y.set b (.arr z [])) a w:=by
 have hn:=h.none_of_look hb;refine⟨h.os,h.tape,h.output,h.size,h.kept,h.inj,?_,h.lt,h.new,⟨h.stay.1,λo ob B hge ho hB=>h.stay.2 o ob B hge (by rwa[Y.look_set_other _ (by omega)]at ho) hB⟩,h.tmps,h.defers,h.frame,?_⟩
 ·intro o B hB;by_cases e:o=b
  ·subst e;exact⟨_,Y.look_set_same _ _⟩
  obtain⟨ob,h1⟩:=h.dom o B hB;exact⟨ob,by rw[Y.look_set_other _ (Ne.symm e)];exact h1⟩
 intro o ob O;by_cases e:o=b
 ·subst e;rw[Y.look_set_same]at O;cases O;exact .inr ⟨hn,rfl⟩
 rw[Y.look_set_other _ (Ne.symm e)]at O;exact h.heap o ob O
end
section
variable {C:Xs}{Y:St}{a:Act}{w:World}
def R.kill (h:R C Y a w)(b:Nat):R C (Y.kill b) a w:=let ⟨Z,hr⟩:=h;⟨_,hr.kill b⟩
def R.adopt (h:R C Y a w){t b z:Nat}(hlt:b<639)(ht:look Y.fr t=X (.lit (.slice n_ 0 0)))(hb:look Y.hp b=n_):R C ((Y.set b (.arr z [])).put t (.own b 0)) a w:=by
 obtain⟨Z,hr⟩:=h;obtain⟨x,hx,O⟩:=hr.frame t _ ht;have:=O.lit_inv;subst this;exact⟨Z,(hr.setNil hlt hb).say hx (.own0 b)⟩
def Nt (fr:S_):S_->Prop
 |[]=>True|(t,v)::r=>look fr t=X v/\Nt fr r
def Nt.look {fr:S_}:∀{l:S_},Nt fr l->∀t v,Vm.look l t=X v->Vm.look fr t=X v:=by
 intro l
 induction l with
 |nil=>intro _ t v h;cases h
 |cons p l ih=>
  intro ⟨O,h2⟩ t v h;obtain⟨k,u⟩:=p;by_cases e:k=t
  ·subst e;rw[QB]at h;cases h;exact O
  rw[Qz _ _ e]at h;exact ih h2 t v h
def R.sub (h:R C Y a w){fr:S_}(O:Nt Y.fr fr):R C ⟨fr,Y.hp⟩ a w:=let ⟨Z,hr⟩:=h;⟨Z,hr.le O.look⟩
end
def XK : L_ Nat->Nat->Bool
 |[],_=>f_|k::r,t=>Nat.beq k t||XK r t
def V.inC (ks:L_ Nat):V->Bool
 |.own o _=>XK ks o|.tl o _ _=>XK ks o|.loc o _ _=>XK ks o|.map o=>XK ks o|.agg h=>h.all V.plain|.tup _=>f_|.clo _ _ _=>f_|.ifc _ x=>x.inC ks|_=>t_
def V.inK (ks:L_ Nat):V->Bool
 |.agg h=>h.all (V.inC ks)|.clo _ fs h=>fs.all (V.inC ks)&&h.all (V.inC ks)|v=>v.inC ks
def Ob.inK (ks:L_ Nat):Ob->Bool
 |.var h=>h.all (V.inK ks)|.lp _ _ h _=>h.all (V.inK ks)|_=>t_
def QR.inC {Z φ':Nat->O_ QV}{I I':Nat->Prop}{w:World}{ks:L_ Nat}(hφ:∀o B,XK ks o=t_->Z o=X B->φ' o=X B)(hI:∀k,I k->I' k){x:Value}{v:V}
  (h:QR Z I w x v) (hv:v.inC ks=t_):QR φ' I' w x v:=by
 induction h with|dat h=>exact .dat (h.mono λk hk=>⟨hI k hk,rfl⟩)|own0 o=>exact .own0 o|own o n B O hn=>exact .own o n B (hφ o B hv O) hn|tl0 o k c a=>exact .tl0 o k c a|tl o k n c B O=>exact .tl o k n c B (hφ o B hv O)|loc o i d B O=>exact .loc o i d B (hφ o B hv O)|map o B O=>exact .map o B (hφ o B hv O)|ifc t x v _ ih=>exact .ifc t x v (ih hv)|agg xs cs hs hr _=>exact .dat ((QR.aggPlain hs hr hv).mono λk hk=>⟨hI k hk,rfl⟩)|_=>simp[V.inC]at hv
def QR.inK {Z φ':Nat->O_ QV}{I I':Nat->Prop}{w:World}{ks:L_ Nat}(hφ:∀o B,XK ks o=t_->Z o=X B->φ' o=X B)(hI:∀k,I k->I' k){x:Value}{v:V}
  (h:QR Z I w x v) (hv:v.inK ks=t_):QR φ' I' w x v:=by
 cases v with
 |agg cs=>
  obtain⟨xs,rfl,hs,hr⟩:=h.agg_inv;rw[V.inK,XM]at hv;exact .agg xs cs hs λj x v hx O=>(hr j x v hx O).inC hφ hI (hv v (XG O))
 |clo fn vs us=>
  obtain⟨xs,ys,rfl,h1,h2,h3,h4⟩:=h.clo_inv;rw[V.inK,QL,XM,XM]at hv;exact .clo fn xs ys vs us h1 h2 (λj x v hx O=>(h3 j x v hx O).inC hφ hI (hv.1 v (XG O))) λj x v hx O=>(h4 j x v hx O).inC hφ hI (hv.2 v (XG O))
 |_=>exact h.inC hφ hI hv
def Hn (hp:H_):H_->Prop
 |[]=>True|(o,ob)::r=>look hp o=X ob/\Hn hp r
def Hn.look {hp:H_}:∀{l:H_},Hn hp l->∀t v,Vm.look l t=X v->Vm.look hp t=X v:=by
 intro l
 induction l with
 |nil=>intro _ t v h;cases h
 |cons p l ih=>
  intro ⟨O,h2⟩ t v h;obtain⟨k,u⟩:=p;by_cases e:k=t
  ·subst e;rw[QB]at h;cases h;exact O
  rw[Qz _ _ e]at h;exact ih h2 t v h
def keys {α:Type}:L_ (Nat×α)->L_ Nat
 |[]=>[]|(k,_)::r=>k::keys r
def Qcb {α:Type}:∀{l:L_ (Nat×α)} {t:Nat} {v:α},look l t=X v->XK (keys l) t=t_:=by
 intro l
 induction l with
 |nil=>intro t v h;cases h
 |cons p l O=>
  intro t v h;obtain⟨k,u⟩:=p;by_cases e:k=t
  ·subst e;simp[keys,XK]
  rw[Qz _ _ e]at h;simp[keys,XK,O h]
def QsX {α:Type}:∀{l:L_ (Nat×α)} {t:Nat},XK (keys l) t=t_->∃v,look l t=X v:=by
 intro l
 induction l with
 |nil=>intro t h;cases h
 |cons p l O=>
  intro t h;obtain⟨k,u⟩:=p;by_cases e:k=t
  ·subst e;exact⟨u,QB _ _ _⟩
  rw[Qz _ _ e];simp only[keys,XK,WO]at h;rcases h with h|h
  ·exact absurd (Yr h) e
  exact O h
def St.closed (Y:St):Bool:=Y.fr.all (λp=>p.2.inK (keys Y.hp))&&Y.hp.all (λp=>p.2.inK (keys Y.hp))
def Jv {α:Type}:∀{l:L_ (Nat×α)} {t:Nat} {v:α},look l t=X v->(t,v)∈l:=by
 intro l
 induction l with
 |nil=>intro t v h;cases h
 |cons p l O=>
  intro t v h;obtain⟨k,u⟩:=p;by_cases e:k=t
  ·subst e;rw[QB]at h;cases h;exact Yd
  rw[Qz _ _ e]at h;exact Yq _ (O h)
section
variable {C:Xs}{Y:St}{a:Act}{w:World}
def R.to (h:R C Y a w){fr:S_}{hp:H_}(hf:Nt Y.fr fr)(hh:Hn Y.hp hp)(hk:St.closed ⟨fr,hp⟩=t_):R C ⟨fr,hp⟩ a w:=by
 obtain⟨Z,hr⟩:=h;rw[St.closed,QL,XM,XM]at hk;let φ':Nat->O_ QV:=λo=>if XK (keys hp) o=t_ then Z o else n_;have hs:∀o B,φ' o=X B->XK (keys hp) o=t_/\Z o=X B:=by
  intro o B hB;simp only[φ']at hB;split at hB
  ·exact⟨by assumption,hB⟩
  cases hB
 have hφ:∀o B,XK (keys hp) o=t_->Z o=X B->φ' o=X B:=λo B h1 h2=>by simp only[φ',h1,if_true];exact h2
 have hI:∀k,Xc C Z w k->Xc C φ' w k:=λk hk=>⟨hk.1,hk.2.1,λo B hB=>hk.2.2 o B (hs o B hB).2⟩;refine⟨φ',hr.os,hr.tape,hr.output,hr.size,hr.kept,λo o' B B' k h1 h2=>hr.inj o o' B B' k (hs _ _ h1).2 (hs _ _ h2).2,λo B hB=>QsX (hs o B hB).1,
  λo B k hB=>hr.lt o B k (hs o B hB).2,λo B k hB=>hr.new o B k (hs o B hB).2,⟨λo B h1 hB=>hr.stay.1 o B h1 (hs o B hB).2,λo ob B h1 ho hB=>hφ o B (Qcb ho) (hr.stay.2 o ob B h1 (hh.look o ob ho) hB)⟩,hr.tmps,hr.defers.mono λk hk=>⟨hI k hk,rfl⟩,?_,?_⟩
 ·intro t v hv;obtain⟨x,hx,O⟩:=hr.frame t v (hf.look t v hv);exact⟨x,hx,O.inK hφ hI (hk.1 (t,v) (Jv hv))⟩
 intro o ob hob;have hm:=Qcb hob;rcases hr.heap o ob (hh.look o ob hob)with⟨B,hB,O⟩|⟨h1,h2⟩
 ·refine .inl ⟨B,hφ o B hm hB,?_⟩;have hok:=hk.2 (o,ob) (Jv hob);cases ob with
  |var cs=>
   obtain⟨xs,E,h1,h2,h0,h3⟩:=O;rw[Ob.inK,XM]at hok;exact⟨xs,E,h1,h2,h0,λj x v hx hv=>(h3 j x v hx hv).inK hφ hI (hok v (XG hv))⟩
  |lp l K vs q=>
   obtain⟨tmps,D,e1,h1,h2,h3,h4⟩:=O;rw[Ob.inK,XM]at hok;exact⟨tmps,D,e1,h1,h2,h3,λj x v hx hv=>(h4 j x v hx hv).inK hφ hI (hok v (XG hv))⟩
  |arr z rs=>exact Yc.mono (λk hk=>⟨hI k hk,rfl⟩) rfl O|map l=>exact Dz.mono (λk hk=>⟨hI k hk,rfl⟩) rfl O|grp z l lk=>exact KP.mono (λk hk=>⟨hI k hk,rfl⟩) (λ_ _=>rfl) O|mapX bm clock L l=>exact EI.mono (λk hk=>⟨hI k hk,rfl⟩) rfl O|itr bm since seen cur=>exact O|itr0=>exact O|tbl A z rs=>exact En.mono (λk hk=>⟨hI k hk,rfl⟩) (λ_ _=>rfl) O|nst x v=>exact O|scr D H=>exact O
 exact .inr ⟨by simp only[φ',hm,if_true];exact h1,h2⟩
end
def QiC (Z:Nat->O_ QV)(I:Nat->Prop)(w:World)(x:Value)(z:Nat)(us:L_ (L_ V)):Prop:=
 (∃a cap,x=.slice a 0 cap/\us=[])\/
 ∃(p:Addr) (cap:Nat) (h:L_ Value),x=.slice (X p) us.length cap/\h.length=us.length*z/\(∀(j:Nat) u,h[j]? = X u->w.cell? (p.add j)=X u)/\(∀u∈h,u.oneCell'=t_)/\
  (∀r∈us,Uw z r)/\∀(i:Nat) r,us[i]? = X r->∀(j:Nat) v,r[j]? = X v->∃u,h[i*z+j]? = X u/\XJ I w u v
def QR.source_sl {Z:Nat->O_ QV}{I:Nat->Prop}{w:World}{x:Value}{z:Nat}{us:L_ (L_ V)}(h:QR Z I w x (.sl z us)):QiC Z I w x z us:=by
 rcases h.sl_inv with⟨a,cap,rfl,rfl⟩|⟨b,off,cap,rfl,hI,hcap,hok,c,hc,hd⟩
 ·exact .inl ⟨a,cap,rfl,rfl⟩
 refine .inr ⟨⟨b,off,n_⟩,cap,(List.range (us.length*z)).map c,rfl,by simp,λj u hu=>?_,λu hu=>?_,hok,λi r hi j v hj=>?_⟩
 ·simp only[Ya,Yf,QX,Qd5,Qj6]at hu;obtain⟨_,⟨hj,rfl⟩,rfl⟩:=hu;rw[Addr.add_lit];exact hc j hj
 ·simp only[Ye,Ea]at hu;obtain⟨k,hk,rfl⟩:=hu;have hz:0<z:=by rcases Nat.eq_zero_or_pos z with h|h;(· subst h;simp at hk);exact h
  have hi:k / z<us.length:=(Nat.div_lt_iff_lt_mul hz).2 hk;have O:=hok us[k / z] (Jc _);have hj:k % z<(us[k / z]).length:=by rw[O.1];exact Nat.mod_lt _ hz
  have hD:=hd (k / z) _ (QI hi) (k % z) _ (QI hj);rw[Nat.mul_comm,Nat.div_add_mod]at hD;exact((QR.dat (Z:=Z) hD).oneCell (O.2 _ (Jc _))).2
 have hin:i<us.length:=(QX.1 hi).1;have hjz:j<z:=by have:=(QX.1 hj).1;rwa[(hok r (XG hi)).1]at this
 have hlt:i*z+j<us.length*z:=by
  have:(i+1)*z<=us.length*z:=Ys _ hin;rw[YS]at this;omega
 exact⟨c (i*z+j),by simp[hlt],hd i r hi j v hj⟩
def QR.source_own {C:Xs}{Z:Nat->O_ QV}{Y:St}{a:Act}{w:World}(hr:RR C Z Y a w){x:Value}{b n z:Nat}{rs:L_ (L_ V)}(h:QR Z (Xc C Z w) w x (.own b n))
  (hb:look Y.hp b=X (.arr z rs)) (hn:n<=rs.length):QiC Z (Xc C Z w) w x z (rs.take n):=by
 rcases h.own_inv with⟨rfl,rfl⟩|⟨B,hB,hcap,rfl⟩
 ·exact .inl ⟨n_,0,rfl,by simp⟩
 obtain⟨rfl,hrl,hok,cs,E,h1,h2,h3⟩:=hr.block hB hb;have hle2:B.off+n*B.z<=cs.size:=Yx (Nat.add_le_add_left (Ys _ hcap) _) h2;have O:(rs.take n).length=n:=by simp;omega
 have get:∀(i:Nat) r,(rs.take n)[i]? = X r->rs[i]? = X r/\i<n:=by
  intro i r hi;rw[YQ]at hi;by_cases h:i<n
  ·rw[if_pos h]at hi;exact⟨hi,h⟩
  rw[if_neg h]at hi;simp at hi
 refine .inr ⟨⟨B.b,B.off,n_⟩,B.cap,(cs.toList.drop B.off).take (n*B.z),by rw[O],by simp[O];omega,λj u hu=>?_,λu hu=>?_,λr hr'=>hok r (DV hr'),λi r hi j v hj=>?_⟩
 ·rw[YQ]at hu;by_cases h:j<n*B.z
  ·rw[if_pos h]at hu;rw[WP]at hu;simp[Addr.add_lit,World.cell?,h1];simpa using hu
  rw[if_neg h]at hu;simp at hu
 ·obtain⟨k,hk⟩:=List.getElem?_of_mem hu;rw[YQ]at hk;by_cases h:k<n*B.z
  ·rw[if_pos h]at hk;have hz:0<B.z:=by rcases Nat.eq_zero_or_pos B.z with h'|h';(· rw[h']at h;omega);exact h'
   have hi:k / B.z<rs.length:=AE ((Nat.div_lt_iff_lt_mul hz).2 h) hn;have hrow:=hok rs[k / B.z] (Jc _);have hj:k % B.z<(rs[k / B.z]).length:=by rw[hrow.1];exact Nat.mod_lt _ hz
   obtain⟨y,hy,hD⟩:=h3 (k / B.z) _ (QI hi) (k % B.z) _ (QI hj);rw[Nat.mul_comm,Nat.div_add_mod]at hy;have:y=u:=by
    have e:cs[B.off+k]? = X u:=by rw[WP]at hk;simpa using hk
    rw[e]at hy;exact(Option.some.inj hy).symm
   subst this;exact((QR.dat (Z:=Z) hD).oneCell (hrow.2 _ (Jc _))).2
  rw[if_neg h]at hk;simp at hk
 obtain⟨hi',hin⟩:=get i r hi;obtain⟨y,hy,hD⟩:=h3 i r hi' j v hj;have hjz:j<B.z:=by have:=(QX.1 hj).1;rwa[(hok r (XG hi')).1]at this
 have hlt:i*B.z+j<n*B.z:=by
  have:(i+1)*B.z<=n*B.z:=Ys _ hin;rw[YS]at this;omega
 exact⟨y,by rw[YQ,if_pos hlt,WP];simpa using hy,hD⟩
def QrK {P:Program}{T U ty e e':TypeId}{base:O_ Addr}{n c:Nat}{x:Value}{w:World}{i:TypeInfo}(h:P.underlying T=X (.slice e))(O:P.underlying U=X (.slice e'))(hi:P.info? e=X i):
  (Builtin.append_ #[T,U] ty #[.slice base n c,x]).run P w=(Builtin.append_ #[T,T] ty #[.slice base n c,x]).run P w:=by
 unfold Builtin.append_;simp only[Uu,List.getElem?_cons_zero,QgO,Xh,run_underlying h,Xp,sizeOf,typeInfo,run_program,hi,Xq,run_underlying O]
def Qea {P:Program}{T ty e:TypeId}{w:World}{i:TypeInfo}(O:P.underlying T=X (.slice e))(hi:P.info? e=X i)(base a:O_ Addr)(n cap c:Nat)(h:n<=cap):
  (Builtin.append_ #[T,T] ty #[.slice base n cap,.slice a 0 c]).run P w=.ok (.slice base n cap) w:=by
 cases base<;>cases a<;>simp[Builtin.append_,run_underlying O,sizeOf,typeInfo,hi,Builtin.lenOf,h,Builtin.firstCells,loadCells,loadCellsFrom,storeCells]
def Qeb {P:Program}{T ty e E:TypeId}{w:World}{i:TypeInfo}(hT:P.underlying T=X (.slice e))(hi:P.info? e=X i)(g off O sCap:Nat)(cur:Array Value)(hg:w.heap[g]? = X (.cells cur E (0,0)))
  (a:Addr) (m c:Nat) (h:L_ Value) (hl:h.length=m*i.size) (hnews:∀(j:Nat) u,h[j]? = X u->w.cell? (a.add j)=X u) (h1:∀u∈h,u.oneCell'=t_)
  (hroom:O+m<=sCap) (hfit:off+O*i.size+h.length<=cur.size):
  (Builtin.append_ #[T,T] ty #[.slice (X ⟨g,off,n_⟩) O sCap,.slice (X a) m c]).run P w =
   .ok (.slice (X ⟨g,off,n_⟩) (O+m) sCap) (w.setRow g (cur.toList.take (off+O*i.size)++h++cur.toList.drop (off+O*i.size+h.length)).toArray):=by
 have hf:(Builtin.firstCells i.size m (.slice (X a) m c)).run P w=.ok h.toArray w:=by
  have:=run_loadCells_list (P:=P) w a h hnews;rw[hl]at this;simpa[Builtin.firstCells] using this
 have hst:=run_storeCells_at P g (off+O*i.size) E h 0 cur w hg (by simpa using hfit) h1;simp only[PO]at hst;simp[Builtin.append_,run_underlying hT,sizeOf,typeInfo,hi,Builtin.lenOf,hroom,hf,Addr.add_lit,hst]
section
variable {P:Program}{C:Xs}{Y:St}{o:Oper}
def St.app (Y:St)(b z d n:Nat)(rs:L_ (L_ V)):St:=((Y.kill b).set b (.arr z rs)).put d (.own b n)
def RR.moved {Z:Nat->O_ QV}{a:Act}{w:World}(hr:RR C Z Y a w){b cap z:Nat}{E:TypeId}{cells:Array Value}{rs:L_ (L_ V)}(hb:b<639)(w':World)
  (hw:w'=w.drew.alloc (.cells cells E)) (hrep:Yc (Xc C Z w) w' ⟨w.heap.size,cap,z,[],0⟩ z rs):
  RR C (ext (Ga Z b) b ⟨w.heap.size,cap,z,[],0⟩) ((Y.kill b).set b (.arr z rs)) a w':=by
 subst hw;have hk:=hr.kill b;have hk':RR C (Ga Z b) (Y.kill b) a w.drew:=hk.step rfl rfl rfl (YK _) (λ_ _=>rfl);have hnone:look (Y.kill b).hp b=n_:=by
  cases h:look (Y.kill b).hp b with|none=>rfl|some ob=>exact absurd rfl (Ju _ _ _ h).1
 refine hk'.alloc (cap:=cap) (z:=z) hnone hb ?_;refine Yc.mono (w:=w.drew.alloc (.cells cells E)) ?_ rfl hrep;intro k O;refine⟨?_,rfl⟩;have:=hk'.imm_alloc b cap z (.cells cells E) (Vp _ _) k ⟨O.1,O.2.1,λo B hB=>O.2.2 o B (Kk hB).2⟩;exact this.1
def RR.reset {Z:Nat->O_ QV}{a:Act}{w:World}(h:RR C Z Y a w)(b:Nat)(ob:Ob)(hex:∃ob0,look Y.hp b=X ob0)(hob:(∃B,Z b=X B/\Jg Z (Xc C Z w) w B ob)\/(Z b=n_/\ob.Nil)):
  RR C Z ((Y.kill b).set b ob) a w:=by
 have hI:∀k,Xc C Z w k->Xc C Z w k/\w.heap[k]? = w.heap[k]? := λk hk=>⟨hk,rfl⟩;have hφ:∀o B,o≠b->Z o=X B->Z o=X B:=λ_ _ _ h=>h;refine⟨h.os,h.tape,h.output,h.size,h.kept,h.inj,?_,h.lt,h.new,⟨h.stay.1,λo ob' B hge ho hB=>by
  by_cases e:o=b
  ·subst e;obtain⟨ob0,h0⟩:=hex;exact h.stay.2 o ob0 B hge h0 hB
  rw[St.look_set_other _ _ (Ne.symm e)]at ho;obtain⟨_,ob2,h2,_⟩:=Ju _ _ _ ho;exact h.stay.2 o ob2 B hge h2 hB⟩,h.tmps,h.defers,?_,?_⟩
 ·intro o B hB;by_cases e:o=b
  ·subst e;exact⟨ob,St.look_set_same _ _ _⟩
  obtain⟨ob',h'⟩:=h.dom o B hB;exact⟨_,by rw[St.look_set_other _ _ (Ne.symm e)];exact Kj _ _ _ e h'⟩
 ·intro t v hv;obtain⟨v',hv',rfl⟩:=IU _ _ _ hv;obtain⟨x,hx,hr⟩:=h.frame t v' hv';exact⟨x,hx,hr.kill hφ hI⟩
 intro o ob' O;by_cases e:o=b
 ·subst e;rw[St.look_set_same]at O;cases O;exact hob
 rw[St.look_set_other _ _ (Ne.symm e)]at O;obtain⟨hne,ob2,hob2,rfl⟩:=Ju _ _ _ O;rcases h.heap o ob2 hob2 with⟨B,hB,hr⟩|⟨h1,hz⟩
 ·exact .inl ⟨B,hB,hr.kill hφ hI λ_ _=>rfl⟩
 exact .inr ⟨h1,hz.kill⟩
def St.set_kill (Y:St)(b:Nat)(ob:Ob):(Y.set b ob).kill b=Y.kill b:=by
 simp[St.set,St.kill,Ep]
def Zo {I:Nat->Prop}{w:World}{z n:Nat}{rs us:L_ (L_ V)}{olds O rest:L_ Value}(hnl:rs.length=n)(hol:olds.length=n*z)(hok:∀r∈rs,Uw z r)(huk:∀r∈us,Uw z r)(hul:O.length=us.length*z)
  (ho:∀(i:Nat) r,rs[i]? = X r->∀(j:Nat) v,r[j]? = X v->∃u,olds[i*z+j]? = X u/\XJ I w u v)
  (hu:∀(i:Nat) r,us[i]? = X r->∀(j:Nat) v,r[j]? = X v->∃u,O[i*z+j]? = X u/\XJ I w u v):
  (∀r∈rs++us,Uw z r)/\∀(i:Nat) r,(rs++us)[i]? = X r->∀(j:Nat) v,r[j]? = X v->∃u,(olds++(O++rest))[i*z+j]? = X u/\XJ I w u v:=by
 refine⟨λr hr=>?_,λi r hi j v hj=>?_⟩
 ·rcases Jy.1 hr with h|h
  ·exact hok r h
  exact huk r h
 by_cases hin:i<n
 ·rw[Yp (by omega)]at hi;obtain⟨u,h1,h2⟩:=ho i r hi j v hj;exact⟨u,by rw[Yp (QX.1 h1).1];exact h1,h2⟩
 rw[YJ (by omega)]at hi;obtain⟨u,h1,h2⟩:=hu _ r hi j v hj;have e:i*z+j=olds.length+((i-rs.length)*z+j):=by
  have:i*z=n*z+(i-n)*z:=by rw[<-YS];congr 1;omega
  rw[hol,hnl];omega
 refine⟨u,?_,h2⟩;rw[e,YJ (by omega),Nat.add_sub_cancel_left,Yp (QX.1 h1).1];exact h1
def Qm5 {T U d e e' z z' by_ by' b n m:Nat}{x y:Operand}{rs us rs':L_ (L_ V)}{zs:L_ V}(ho:o.op=.call { callee:=.builtin .append,args:=#[x,y],argTypes:=#[T,U] })
  (hd:o.dst=X d) (hn:B_ d C) (hx:Y.opd x=X (.own b n)) (hb:look Y.hp b=X (.arr z rs)) (hb1:Nat.ble 639 b=f_) (hnl:rs.length=n)
  (hT:XZ P T=X (e,z,by_)) (hU:XZ P U=X (e',z',by')) (hz:Xm P e=X zs) (hzl:zs.length=z) (hz0:z≠0) (hsm:n+us.length<=140737488355328) (hbytes:(n+us.length)*by_<=140737488355328)
  (hy:∀Z a w,RR C Z Y a w->QiC Z (Xc C Z w) w (a.eval y) z us) (he:rs++us=rs') (hm:n+us.length=m):∀Z a w,RR C Z Y a w->∃v w' φ',(execOp a.eval o).run P w=.ok (.value v) w'/\RR C φ' (Y.app b z d m rs') (a.put o.dst v) w':=by
 intro Z a w hr;subst hnl he hm;obtain⟨hu,i,hi,rfl,rfl⟩:=Jq hT;obtain⟨hu',_⟩:=Jq hU;obtain⟨i',zv,hi',hz',hmap⟩:=FX hz;rw[hi]at hi';cases hi';have hb2:b<639:=by
  rcases DX b 639 with h|h
  ·exact h
  rw[Zm h]at hb1;cases hb1
 have hzs:zv.cells.size=i.size:=by rw[<-hzl,<-hmap];simp
 have hpos:0<i.size:=Nat.pos_of_ne_zero hz0;have hexec:∀base n c v w',a.eval x=.slice base n c->(Builtin.append_ #[T,T] o.type #[.slice base n c,a.eval y]).run P w=.ok v w'->(execOp a.eval o).run P w=.ok (.value v) w':=by
  intro base n c v w' h1 h;simp only[execOp,ho,resolve,invoke,builtin,Xh,Xq,Xp,List.map_toArray,GC,List.map_nil,h1,QrK hu hu' hi,h]
 have hown:=(hr.opd hx).own_inv;by_cases h0:us=[]
 ·
  subst h0;have hsrc:∃p c,a.eval y=.slice p 0 c:=by
   rcases hy Z a w hr with⟨p,c,h,_⟩|⟨p,c,_,h,_⟩
   ·exact⟨p,c,h⟩
   exact⟨X p,c,by simpa using h⟩
  obtain⟨p,c,hp⟩:=hsrc;simp only[Zg,SB,PO];rcases hown with⟨h1,h2⟩|⟨B,hB,hcap,h1⟩
  ·refine⟨.slice n_ 0 0,w,Z,hexec n_ 0 0 _ _ h1 (by rw[hp];exact Qea hu hi n_ p 0 0 c (YK _)),?_⟩;have:=hr.reset b (.arr i.size rs) ⟨_,hb⟩ (by
    rcases hr.heap b _ hb with⟨B,hB,hrep⟩|hn
    ·exact .inl ⟨B,hB,hrep⟩
    exact .inr hn)
   rw[hd,h2];exact this.put (Xv hn) (.own0 b)
  refine⟨.slice (X ⟨B.b,B.off,n_⟩) rs.length B.cap,w,Z,hexec _ _ _ _ _ h1 (by rw[hp];exact Qea hu hi _ p _ _ c hcap),?_⟩;have:=hr.reset b (.arr i.size rs) ⟨_,hb⟩ (.inl ⟨B,hB,hr.block hB hb⟩);rw[hd];exact this.put (Xv hn) (.own b _ B hB hcap)
 have hpos2:0<us.length:=List.length_pos_iff.2 h0;obtain⟨p,c,O,hyv,hnews,hcells,hone,hokU,hrowU⟩:∃(p:Addr) (cap:Nat) (O:L_ Value),a.eval y=.slice (X p) us.length cap/\O.length=us.length*i.size/\(∀(j:Nat) u,O[j]? = X u->w.cell? (p.add j)=X u)/\(∀u∈O,u.oneCell'=t_)/\
   (∀r∈us,Uw i.size r)/\∀(k:Nat) r,us[k]? = X r->∀(j:Nat) v,r[j]? = X v->∃u,O[k*i.size+j]? = X u/\XJ (Xc C Z w) w u v:=by
  rcases hy Z a w hr with⟨_,_,_,h⟩|h
  ·exact absurd h h0
  exact h
 rcases hown with⟨h1,h2⟩|⟨B,hB,hcap,h1⟩
 ·
  have hrs:rs=[]:=Qm2 h2;subst hrs;have hrun:=run_append_nil (P:=P) w T o.type e i zv hu hi hz' p us.length c O hnews hcells hpos2 (by omega) (by
   have:us.length*i.bytes<=140737488355328:=by simpa using hbytes
   omega)
  have hge:=grownCap_ge w us.length 0 e;simp only[Qd6,SB,DY];refine⟨_,_,ext (Ga Z b) b ⟨w.heap.size,grownCap w us.length 0 e,i.size,[],0⟩,hexec n_ 0 0 _ _ h1 (by rw[hyv];exact hrun),?_⟩;rw[hd];obtain⟨g1,g2⟩:=Zo (I:=Xc C Z w) (w:=w) (n:=0) (rs:=[]) (olds:=[]) (rest:=(Builtin.zeroCells zv.cells (grownCap w us.length 0 e-us.length)).toList) rfl (by simp) (by simp) hokU hnews (by simp) hrowU;have hmv:=hr.moved (b:=b) (cap:=grownCap w us.length 0 e) (z:=i.size) (E:=e) (cells:=O.toArray++Builtin.zeroCells zv.cells (grownCap w us.length 0 e-us.length)) (rs:=us) hb2 _ rfl
   (Yc.mk0 rfl rfl hge hokU _ e (heap_alloc_new w.drew _) (by simp[size_zeroCells,hzs,hnews,<-YS];congr 1;omega) λk r hk j v hj=>by
    obtain⟨u,hu1,hu2⟩:=g2 k r (by simpa using hk) j v hj;refine⟨u,?_,XJ.mono (w:=w) (λk hk=>⟨hk,Below.heap_alloc w.drew _ _ hk.1⟩) hu2⟩;rw[<-hu1];simp[<-Sv])
  exact hmv.put (Xv hn) (.own b us.length ⟨w.heap.size,_,i.size,[],0⟩ (Xb _ _ _) hge)
 obtain⟨hBz,hrl,hok,cs,E,e1,e2,e3⟩:=hr.block hB hb;have hle2:B.off+rs.length*i.size<=cs.size:=Yx (Nat.add_le_add_left (Ys _ hrl) _) e2;have hol:((cs.toList.drop B.off).take (rs.length*i.size)).length=rs.length*i.size:=by simp;omega
 have hold:∀(k:Nat) r,rs[k]? = X r->∀(j:Nat) v,r[j]? = X v->∃u,((cs.toList.drop B.off).take (rs.length*i.size))[k*i.size+j]? = X u/\XJ (Xc C Z w) w u v:=λk r hk j v hj=>by
  obtain⟨u,hu1,hu2⟩:=e3 k r hk j v hj;have hkl:k<rs.length:=(QX.1 hk).1;have hjz:j<i.size:=by have:=(QX.1 hj).1;rwa[(hok r (XG hk)).1]at this
  have hlt:k*i.size+j<rs.length*i.size:=by
   have:(k+1)*i.size<=rs.length*i.size:=Ys _ hkl;rw[YS]at this;omega
  exact⟨u,by rw[YQ,if_pos hlt,WP];simpa using hu1,hu2⟩
 by_cases hroom:rs.length+us.length<=B.cap
 ·
  have hfit:B.off+rs.length*i.size+O.length<=cs.size:=by
   refine Yx ?_ e2;rw[hnews,Ns,<-YS];exact Nat.add_le_add_left (Ys _ hroom) _
  have hrun:=Qeb (P:=P) (ty:=o.type) hu hi B.b B.off rs.length B.cap cs e1 p us.length c O hnews hcells hone hroom hfit;refine⟨_,_,Z,hexec _ _ _ _ _ h1 (by rw[hyv];exact hrun),?_⟩;obtain⟨g1,g2⟩:=Zo (I:=Xc C Z w) (w:=w) (n:=rs.length) (rs:=rs) (olds:=(cs.toList.drop B.off).take (rs.length*i.size)) (rest:=cs.toList.drop (B.off+rs.length*i.size+O.length)) rfl
   hol hok hokU hnews hold hrowU
  have hne:∀k,Xc C Z w k->k≠B.b:=λk hk e=>hk.2.2 b B hB (.inl e);have hwr:=hr.write (ob:=.arr i.size (rs++us)) (w':=w.setRow B.b (cs.toList.take (B.off+rs.length*i.size)++O++cs.toList.drop (B.off+rs.length*i.size+O.length)).toArray) hB rfl rfl rfl (by simp)
   (λk hk=>setRow_other w B.b k _ hk) ⟨hBz,by simpa using hroom,g1,_,E,setRow_heap w B.b cs _ E _ e1,by simp;omega,λk r hk j v hj=>by
    obtain⟨u,hu1,hu2⟩:=g2 k r hk j v hj;refine⟨u,by rw[<-hu1];simp only[Uu];rw[List.take_add,WC,WC,YJ (by simp;omega)];congr 1;simp;omega,hu2.mono λk hk=>⟨⟨by simpa using hk.1,hk.2⟩,setRow_other w B.b k _ (hne k hk)⟩⟩⟩
  have hre:=hwr.reset b (.arr i.size (rs++us)) ⟨_,St.look_set_same _ _ _⟩ (.inl ⟨B,hB,hwr.block hB (St.look_set_same _ _ _)⟩);rw[St.set_kill]at hre;rw[hd];exact hre.put (Xv hn) (.own b _ B hB hroom)
 
 have hoc:∀(j:Nat) v,((cs.toList.drop B.off).take (rs.length*i.size))[j]? = X v->w.cell? ((⟨B.b,B.off,n_⟩:Addr).add j)=X v:=by
  intro j v hj;rw[YQ]at hj;by_cases h:j<rs.length*i.size
  ·rw[if_pos h,WP]at hj;simp[Addr.add_lit,World.cell?,e1];simpa using hj
  rw[if_neg h]at hj;simp at hj
 have hrun:=run_append_grow (P:=P) w T o.type e i zv hu hi hz' ⟨B.b,B.off,n_⟩ rs.length B.cap _ hol hoc p us.length c O hnews hcells (by omega) (by omega) (growslice_fits (by omega) hbytes);have hge:=grownCap_ge w (rs.length+us.length) B.cap e;refine⟨_,_,ext (Ga Z b) b ⟨w.heap.size,grownCap w (rs.length+us.length) B.cap e,i.size,[],0⟩,hexec _ _ _ _ _ h1 (by rw[hyv];exact hrun),?_⟩;obtain⟨g1,g2⟩:=Zo (I:=Xc C Z w) (w:=w) (n:=rs.length) (rs:=rs) (olds:=(cs.toList.drop B.off).take (rs.length*i.size))
  (rest:=(Builtin.zeroCells zv.cells (grownCap w (rs.length+us.length) B.cap e-(rs.length+us.length))).toList) rfl hol hok hokU hnews hold hrowU
 have hmv:=hr.moved (b:=b) (cap:=grownCap w (rs.length+us.length) B.cap e) (z:=i.size) (E:=e)
  (cells:=((cs.toList.drop B.off).take (rs.length*i.size)).toArray++O.toArray++Builtin.zeroCells zv.cells (grownCap w (rs.length+us.length) B.cap e-(rs.length+us.length))) (rs:=rs++us) hb2 _ rfl
  (Yc.mk0 rfl rfl (by simpa using hge) g1 _ e (heap_alloc_new w.drew _) (by
   simp only[Array.size_append,Zl,hol,hnews,size_zeroCells,hzs,<-YS];congr 1;omega) λk r hk j v hj=>by
   obtain⟨u,hu1,hu2⟩:=g2 k r hk j v hj;refine⟨u,?_,XJ.mono (w:=w) (λk hk=>⟨hk,Below.heap_alloc w.drew _ _ hk.1⟩) hu2⟩;rw[<-hu1,<-Sv];simp[WC])
 rw[hd];exact hmv.put (Xv hn) (.own b _ ⟨w.heap.size,_,i.size,[],0⟩ (Xb _ _ _) hge)
def Stp.appendB {T U d e e' z z' by_ by' b n m:Nat}{x y:Operand}{rs us rs':L_ (L_ V)}{zs:L_ V}(ho:o.op=.call { callee:=.builtin .append,args:=#[x,y],argTypes:=#[T,U] })
  (hd:o.dst=X d) (hn:B_ d C) (hx:Y.opd x=X (.own b n)) (hb:look Y.hp b=X (.arr z rs)) (O:Nat.ble 639 b=f_) (hnl:rs.length=n)
  (hT:XZ P T=X (e,z,by_)) (hU:XZ P U=X (e',z',by')) (hz:Xm P e=X zs) (hzl:zs.length=z) (hz0:z≠0) (hsm:n+us.length<=140737488355328) (h:(n+us.length)*by_<=140737488355328)
  (hy:∀Z a w,RR C Z Y a w->QiC Z (Xc C Z w) w (a.eval y) z us) (he:rs++us=rs') (hm:n+us.length=m):Stp P C o Y (Y.app b z d m rs'):=
 Stp.val (Qm5 ho hd hn hx hb O hnl hT hU hz hzl hz0 hsm h hy he hm)
def Stp.append {T U d e e' z z' by_ by' b n m:Nat}{x y:Operand}{rs us rs':L_ (L_ V)}{zs:L_ V}(ho:o.op=.call { callee:=.builtin .append,args:=#[x,y],argTypes:=#[T,U] })
  (hd:o.dst=X d) (hn:B_ d C) (hx:Y.opd x=X (.own b n)) (hb:look Y.hp b=X (.arr z rs)) (O:Nat.ble 639 b=f_) (hnl:rs.length=n)
  (hT:XZ P T=X (e,z,by_)) (hU:XZ P U=X (e',z',by')) (hz:Xm P e=X zs) (hzl:zs.length=z) (hz0:z≠0) (hby:by_<=32768) (h:n+us.length<=4294967296)
  (hy:∀Z a w,RR C Z Y a w->QiC Z (Xc C Z w) w (a.eval y) z us) (he:rs++us=rs') (hm:n+us.length=m):Stp P C o Y (Y.app b z d m rs'):=
 Stp.val (Qm5 ho hd hn hx hb O hnl hT hU hz hzl hz0 (Yx h (by decide)) (Yx (Nat.mul_le_mul h hby) (by decide)) hy he hm)
end
structure Ins (S:Nat->Prop) (Z:Nat->Option QV) (w:World) (vals:Array Value) (args:List V) (hs:List (Nat×Ob)):Prop where
 lt:∀k,S k->k<w.heap.size
 inj:∀o o' B B' k,Z o=X B->Z o'=X B'->B.has k->B'.has k->o=o'
 dom:∀o B,Z o=X B->635<=o/\(∀k,B.has k->k<w.heap.size/\¬S k)/\∃ob,look hs o=X ob
 size:vals.size=args.length
 args:∀(j:Nat) x v,vals[j]? = X x->args[j]? = X v->QR Z S w x v
 heap:∀o ob,look hs o=X ob->(∃B,Z o=X B/\Jg Z S w B ob)\/(Z o=n_/\ob.Nil)
def Aft (S:Nat->Prop)(Z:Nat->O_ QV)(w w':World)(k:Nat):Prop:=k<w'.heap.size/\(k<w.heap.size->S k)/\∀o B,Z o=X B->¬B.has k
structure Outs (S:Nat->Prop) (Z:Nat->Option QV) (w:World) (φ':Nat->Option QV) (w':World) (x:Value) (v:V) (hs:List (Nat×Ob)):Prop where
 os:w'.os=w.os
 tape:w'.tape=w.tape
 output:w'.output=w.output
 size:w.heap.size<=w'.heap.size
 kept:∀k,k<w.heap.size->(∀o B,Z o=X B->¬B.has k)->w'.heap[k]? = w.heap[k]?
 inj:∀o o' B B' k,φ' o=X B->φ' o'=X B'->B.has k->B'.has k->o=o'
 dom:∀o B,φ' o=X B->∃ob,look hs o=X ob
 lt:∀o B k,φ' o=X B->B.has k->k<w'.heap.size/\(k<w.heap.size->∃o' B',Z o'=X B'/\B'.has k)
 new:∀o B k,φ' o=X B->B.has k->o<635->w.heap.size<=k
 stay:Qd7 Z φ' hs
 rep:QR φ' (Aft S φ' w w') w' x v
 heap:∀o ob,look hs o=X ob->(∃B,φ' o=X B/\Jg φ' (Aft S φ' w w') w' B ob)\/(φ' o=n_/\ob.Nil)
def Qxm (P:Program):O_ Nat:=P.globalNamed "strings.asciiSpace"
def QaD (P:Program)(S:Nat->Prop)(w:World):Prop:=∀g,Qxm P=X g->S g/\g<w.heap.size/\∀c:Nat,c<256->w.cell? ⟨g,c,n_⟩=X (.int .u8 (if Lib.isSp (UInt8.ofNat c)then 1 else 0))
def QaD.mono {P:Program}{S O:Nat->Prop}{w:World}(h:QaD P S w)(hs:∀k,S k->O k):QaD P O w:=λg hg=>let ⟨a,b⟩:=h g hg;⟨hs g a,b⟩
def Xs.pg (C:Xs)(P:Program):Prop:=QaD P C.S C.w0/\∀g,Qxm P=X g->¬C.W g
structure JA (P:Program) (C:Xs) (n:Nat):Prop where
 n:C.n=n
 g:C.pg P
def QK {n m d:Nat}(h:m=n)(e:Nat.ble (d+1) n=t_):Nat.ble (d+1) m=t_:=h▸e
def RR.glob {P:Program}{C:Xs}{Z:Nat->O_ QV}{Y:St}{a:Act}{w:World}(O:RR C Z Y a w)(hg:C.pg P):QaD P (Xc C Z w) w:=λg h=>by
 obtain⟨s,l,c⟩:=hg.1 g h;have nW:=hg.2 g h;refine⟨⟨AE l O.size,λ_=>s,λo B hB hb=>nW ((O.lt o B g hB hb).2 l)⟩,AE l O.size,λi hi=>?_⟩;rw[World.cell?_of_block (O.kept g l nW)];exact c i hi
def QQ (P:Program)(f:FuncId)(args:L_ V)(hs:H_)(post:V->H_->Prop):Prop:=
 ∀(S:Nat->Prop) (Z:Nat->O_ QV) (w:World) (h:Array Value),Ins S Z w h args hs->QaD P S w->
  Calls P f h w λe w'=>∃x v O φ',e=.returned x/\post v O/\Outs S Z w φ' w' x v O
def Wc (β:Nat)(P:Program)(f:FuncId)(args:L_ V)(hs:H_)(post:V->H_->Prop):Prop:=
 ∀(S:Nat->Prop) (Z:Nat->O_ QV) (w:World) (h:Array Value),β<=w.heap.size->Ins S Z w h args hs->QaD P S w->
  Calls P f h w λe w'=>∃x v O φ',e=.returned x/\post v O/\Outs S Z w φ' w' x v O
def QQ.b {P:Program}{f:FuncId}{args:L_ V}{hs:H_}{post:V->H_->Prop}{β:Nat}(h:QQ P f args hs post):Wc β P f args hs post:=λS Z w O _=>h S Z w O
def Wc.a {P:Program}{f:FuncId}{args:L_ V}{hs:H_}{post:V->H_->Prop}(h:Wc 0 P f args hs post):QQ P f args hs post:=λS Z w O=>h S Z w O (Nat.zero_le _)
def Wc.mono {P:Program}{f:FuncId}{args:L_ V}{hs:H_}{post O:V->H_->Prop}{β:Nat}(h:Wc β P f args hs post)(hp:∀v hs,post v hs->O v hs):Wc β P f args hs O:=
 λS Z w vals hβ hi hG=>(h S Z w vals hβ hi hG).mono λ_ _ ⟨x,v,hs',φ',h1,h2,h3⟩=>⟨x,v,hs',φ',h1,hp v hs' h2,h3⟩
def QQ.mono {P:Program}{f:FuncId}{args:L_ V}{hs:H_}{post O:V->H_->Prop}(h:QQ P f args hs post)(hp:∀v hs,post v hs->O v hs):QQ P f args hs O:=
 λS Z w vals hi hG=>(h S Z w vals hi hG).mono λ_ _ ⟨x,v,hs',φ',h1,h2,h3⟩=>⟨x,v,hs',φ',h1,hp v hs' h2,h3⟩
def OG : Nat->L_ V->S_
 |_,[]=>[]|k,v::r=>(k,v)::OG (k+1) r
def Qqk : ∀(l:L_ V) (k t:Nat) (v:V),look (OG k l) t=X v->k<=t/\l[t-k]? = X v:=by
 intro l
 induction l with
 |nil=>intro k t v h;cases h
 |cons u l ih=>
  intro k t v h;by_cases e:k=t
  ·subst e;rw[OG,QB]at h;cases h;simp
  rw[OG,Qz _ _ e]at h;obtain⟨h1,O⟩:=ih (k+1) t v h;refine⟨by omega,?_⟩;rw[show t-k=(t-(k+1))+1 by omega];simpa using O
def Res (P:Program)(Y:St):L_ ResultVar->L_ V->Prop
 |[],[]=>True|.tmp t::r,v::vs=>look Y.fr t=X v/\Res P Y r vs|.cell p T::r,v::vs=>(∃b h,look Y.fr p=X (.loc b 0 0)/\look Y.hp b=X (.var h)/\((Ux P T=X t_/\BA P T=X h.length/\v=.agg h)\/(Ux P T=X f_/\h=[v])))/\Res P Y r vs|_,_=>False
def QiD : L_ V->V
 |[v]=>v|vs=>.tup vs
def QeY (P:Program)(h:L_ ResultVar)(post:V->H_->Prop):Exit->St->Prop
 |.normal,Y=>∃vs,Res P Y h vs/\post (QiD vs) Y.hp|.ret,Y=>∃vs,Res P Y h vs/\post (QiD vs) Y.hp|_,_=>False
def Ro (tmps:Array Value):ResultVar->Sem Value
 |.tmp t=>pure (tmps.getD t undef)|.cell a t=>do loadVar t (<-asAddr (tmps.getD a undef))
section
variable {P:Program}{C:Xs}{Z:Nat->O_ QV}{Y:St}{a:Act}{w:World}
def RR.resList (hr:RR C Z Y a w):∀(rv:L_ ResultVar) (vs:L_ V),Res P Y rv vs->
  ∃xs:L_ Value,(rv.mapM (Ro a.tmps)).run P w=.ok xs w/\xs.length=vs.length/\∀(j:Nat) x v,xs[j]? = X x->vs[j]? = X v->QR Z (Xc C Z w) w x v:=by
 intro rv
 induction rv with
 |nil=>
  intro vs h;cases vs with|nil=>exact⟨[],rfl,rfl,by simp⟩|cons=>cases h
 |cons r rv ih=>
  intro vs h;cases vs with
  |nil=>cases r<;>cases h
  |cons v vs=>
   have key:∃x,(Ro a.tmps r).run P w=.ok x w/\QR Z (Xc C Z w) w x v/\Res P Y rv vs:=by
    cases r with
    |tmp t=>
     obtain⟨h1,h2⟩:=h;obtain⟨x,hx,hrep⟩:=hr.frame t v h1;exact⟨x,by simp[Ro,Qb6,hx],hrep,h2⟩
    |cell p T=>
     obtain⟨⟨b,cs,h1,h2,h3⟩,h4⟩:=h;obtain⟨x,hx,hrep⟩:=hr.frame p _ h1;obtain⟨B,hB,rfl⟩:=hrep.loc_inv;obtain⟨xs,E,e1,e2,e0,e3⟩:=hr.block hB h2;have O:∀y,(Instr.loadAt T (.pointer (X ⟨B.b,B.off+(0*B.z+0),n_⟩))).run P w=.ok y w->(Ro a.tmps (.cell p T)).run P w=.ok y w:=by
      intro y hy;simp only[Ro,Qb6,hx,GG,asAddr,Xh,Xq,Xp];simpa only[Instr.loadAt,Instr.sureAddr,Xh,Xq,Xp] using hy
     rcases h3 with⟨g1,g2,rfl⟩|⟨g1,rfl⟩
     ·have hc:∀j,j<cs.length->w.cell? ((⟨B.b,B.off+(0*B.z+0),n_⟩:Addr).add j)=X (xs.getD j undef):=by
       intro j hj;have:j<xs.size:=by omega
       simp[Addr.add_lit,World.cell?,e1,Array.getD,this,e0]
      refine⟨_,O _ (Zn _ g1 g2 hc),.agg _ _ (by simp) λj y u hy hu=>?_,h4⟩;simp only[Uu,Ya,Yf,QX,Qd5,Qj6]at hy;obtain⟨_,⟨hj,rfl⟩,rfl⟩:=hy;have hlt:j<xs.size:=by omega
      exact e3 j _ u (by simp[Array.getD,hlt]) hu
     have hlt:0<xs.size:=by rw[e2];simp
     exact⟨xs[0],O _ (Ph g1 (by simp[World.cell?,e1,hlt,e0])),e3 0 _ _ (GR hlt) rfl,h4⟩
   obtain⟨x,h1,h2,h3⟩:=key;obtain⟨xs,h4,h5,h6⟩:=ih vs h3;refine⟨x::xs,by rw[List.mapM_cons];simp only[Xh,h1,Xp,h4,Xq],by simp[h5],λj y u hy hu=>?_⟩;cases j with|zero=>simp at hy hu;subst hy;subst hu;exact h2|succ j=>exact h6 j y u hy hu
def RR.result (hr:RR C Z Y a w){fn:Func}{vs:L_ V}(h:Res P Y fn.results.toList vs):∃x,(results fn a.tmps).run P w=.ok x w/\QR Z (Xc C Z w) w x (QiD vs):=by
 obtain⟨xs,h1,h2,h3⟩:=hr.resList fn.results.toList vs h;have hm:(fn.results.mapM (Ro a.tmps)).run P w=.ok xs.toArray w:=by
  rw[Array.mapM_eq_mapM_toList,Sem.run_map,h1];rfl
 have hres:(results fn a.tmps).run P w=.ok (if h:xs.toArray.size=1 then xs.toArray[0]else .tuple xs.toArray) w:=by
  have:results fn a.tmps=(do
    let vs <-fn.results.mapM (Ro a.tmps)
    pure (if h:vs.size=1 then vs[0]else .tuple vs)):=by
   unfold results;congr 1
  rw[this];simp only[Xh,hm,Xp,Xq]
 refine⟨_,hres,?_⟩;by_cases O:xs.toArray.size=1
 ·rw[dif_pos O];have:∃v,vs=[v]:=List.length_eq_one_iff.1 (by rw[<-h2];simpa using O);obtain⟨v,rfl⟩:=this;have hl:0<xs.length:=by rw[h2];simp
  refine h3 0 _ v ?_ rfl;simp[QI hl]
 rw[dif_neg O];have:QiD vs=.tup vs:=by
  cases vs with
  |nil=>rfl|cons v vs=>cases vs with|nil=>exact absurd (by simpa using h2) O|cons=>rfl
 rw[this];exact .tup _ _ (by simpa using h2) λj x v hx hv=>h3 j x v (by simpa using hx) hv
def RR.unmark {ts:Array Value}{Ds:L_ Nat}{D:Nat}(hn:(D::Ds).Nodup)(hm:∀D'∈D::Ds,C.w0.heap.size<=D'/\Xc C Z w D'/\w.heap[D']? = X (.deferred (X [])))
  {ds:L_ Deferred} (O:RR C Z Y ⟨ts,ds⟩ w):RR C Z Y ⟨ts,Ds.map (λD=>{ target:=.collected D,args:=#[] })⟩ (w.putObj D (.deferred n_)):=by
 obtain⟨hD0,hD1,hD2⟩:=hm D Yd;have ho:∀k,k≠D->(w.putObj D (.deferred n_)).heap[k]? = w.heap[k]? := λk hk=>World.putObj_heap_other hk;have hsz:(w.putObj D (.deferred n_)).heap.size=w.heap.size:=World.putObj_size;have hI:∀k,Xc C Z w k->Xc C Z (w.putObj D (.deferred n_)) k/\Kp w (w.putObj D (.deferred n_)) k:=λk hk=>by
  refine⟨⟨by rw[hsz];exact hk.1,hk.2⟩,?_⟩;by_cases e:k=D
  ·subst e;refine⟨λi=>?_,λcs E h=>?_⟩
   ·simp only[World.cell?,World.putObj_heap_same hD1.1,hD2]
   rw[hD2]at h;cases h
  exact Kp.of (ho k e)
 have hob:∀o B k,Z o=X B->B.has k->(w.putObj D (.deferred n_)).heap[k]? = w.heap[k]? := λo B k hB hk=>ho k λe=>hD1.2.2 o B hB (e▸hk);refine⟨O.os,O.tape,O.output,by rw[hsz];exact O.size,λk h1 h2=>(ho k (by omega)).trans (O.kept k h1 h2),O.inj,O.dom,λo B k hB hk=>by rw[hsz];exact O.lt o B k hB hk,O.new,O.stay,O.tmps,
  ⟨Ds,rfl,(Uv.1 hn).2,λD' hD'=>?_⟩,λt v hv=>?_,λo ob hob'=>?_⟩
 ·obtain⟨a1,a2,a3⟩:=hm D' (Yq _ hD');exact⟨a1,⟨by rw[hsz];exact a2.1,a2.2⟩,(ho D' λe=>(Uv.1 hn).1 (e▸hD')).trans a3⟩
 ·obtain⟨x,hx,hrep⟩:=O.frame t v hv;exact⟨x,hx,hrep.monoC (λ_ _ h=>h) hI⟩
 rcases O.heap o ob hob' with⟨B,hB,hrep⟩|hn
 ·exact .inl ⟨B,hB,hrep.monoC (λ_ _ h=>h) hI (λk hk=>hob o B k hB hk)⟩
 exact .inr hn
def Wc.enter {β:Nat}{f:FuncId}{fn:Func}{c:Code}{n:Nat}{args:L_ V}{hs:H_}{post:V->H_->Prop}(hf:P.funcs[f]? = X fn)(hb:fn.body=X c)(hn:fn.ntmps=n)
  (hle:Nat.ble args.length n=t_) (hsm:Nat.ble n 639=t_) (h:∀C:Xs,JA P C n->C.rnd=n_->β<=C.w0.heap.size->Yz P C c ⟨OG 0 args,hs⟩ (QeY P fn.results.toList post)):Wc β P f args hs post:=by
 intro S Z w vals hβ hi hG;have hle:=JT hle;refine(callsIn_wide (n:=0)).1 (callsIn_of_wp_marks hf hb trivial ?_);let C:Xs:=⟨w,S,λk=>∃o B,Z o=X B/\B.has k,n,Z,JT hsm,n_⟩;have hI:∀k,S k->Xc C Z w k/\w.heap[k]? = w.heap[k]? := λk hk=>⟨⟨hi.lt k hk,λ_=>hk,λo B hB e=>((hi.dom o B hB).2.1 k e).2 hk⟩,rfl⟩;have hR:R C ⟨OG 0 args,hs⟩ { tmps:=vals++Array.replicate (fn.ntmps-vals.size) undef,defers:=[] } w:=by
  refine⟨Z,rfl,rfl,rfl,YK _,λ_ _ _=>rfl,hi.inj,λo B hB=>(hi.dom o B hB).2.2,λo B k hB hk=>⟨((hi.dom o B hB).2.1 k hk).1,λ_=>⟨o,B,hB,hk⟩⟩,λo B k hB hk hlt=>absurd (hi.dom o B hB).1 (by omega),⟨λ_ _ _ h=>h,λ_ _ _ _ _ h=>h⟩,
   by simp[hi.size,hn];show _=n;omega,⟨[],rfl,List.nodup_nil,λ_ h=>by cases h⟩,λt v hv=>?_,λo ob hob=>?_⟩
  ·obtain⟨_,h2⟩:=Qqk args 0 t v hv;rw[Nat.sub_zero]at h2;have hlt:t<vals.size:=by rw[hi.size];exact(QX.1 h2).1
   refine⟨vals[t],?_,(hi.args t _ v (GR hlt) h2).mono (λ_ _ h=>h) hI⟩;simp[Array.getElem?_append,hlt]
  rcases hi.heap o ob hob with⟨B,hB,O⟩|hn
  ·exact .inl ⟨B,hB,O.mono (λ_ _ h=>h) hI λ_ _=>rfl⟩
  exact .inr hn
 have hok:JA P C n:=⟨rfl,hG,λg hg ⟨o,B,hB,hb⟩=>((hi.dom o B hB).2.1 g hb).2 (hG g hg).1⟩;refine wpIn_mono (h C hok rfl hβ _ _ hR) ?_;rintro e a' w' ⟨σ',hq,φ',O⟩;have done:(∃vs,Res P σ' fn.results.toList vs/\post (QiD vs) σ'.hp)->LeavesInM Fence.wide 0 P fn a'.tmps (λe w'=>∃x v hs' φ',e=.returned x/\post v hs'/\Outs S Z w φ' w' x v hs') a'.defers .returning w':=by
  rintro ⟨vs,h1,h2⟩;obtain⟨Ds,hds,hnd,hm⟩:=O.defers;obtain⟨ts,ds⟩:=a';simp only at hds;subst hds;simp only;revert w'
  induction Ds with
  |nil=>
   intro w' hm O;obtain⟨x,h3,h4⟩:=O.result (P:=P) h1;exact⟨x,h3,x,QiD vs,σ'.hp,φ',rfl,h2,O.os,O.tape,O.output,O.size,λk hk hne=>O.kept k hk (λ⟨o,B,hB,e⟩=>hne o B hB e),O.inj,O.dom,
    λo B k hB hk=>⟨(O.lt o B k hB hk).1,λhlt=>(O.lt o B k hB hk).2 hlt⟩,O.new,O.stay,h4,O.heap⟩
  |cons D Ds ih=>
   intro w' hm O;refine⟨by simp,.inl ⟨D,w'.putObj D (.deferred n_),rfl,run_takeDeferred (hm D Yd).2.2,?_⟩⟩;have hr':=O.unmark hnd hm;obtain⟨Ds',e1,e2,e3⟩:=hr'.defers;refine ih (Uv.1 hnd).2 _ ?_ hr';have:Ds'=Ds:=by
    have inj:∀(l l':L_ Nat),l.map (λD=>({ target:=.collected D,args:=#[] }:Deferred))=l'.map (λD=>{ target:=.collected D,args:=#[] })->l=l':=by
     intro l
     induction l with
     |nil=>intro l' h;cases l' with|nil=>rfl|cons=>cases h
     |cons x l ih=>intro l' h;cases l' with
      |nil=>cases h
      |cons y l'=>simp only[GC,List.cons.injEq,Deferred.mk.injEq]at h;injection h.1.1 with h1;rw[h1,ih l' h.2]
    exact(inj _ _ e1).symm
   rw[<-this];exact e3
 cases e with|normal=>exact done hq|ret=>exact done hq|_=>exact hq.elim
def QQ.enter {f:FuncId}{fn:Func}{c:Code}{n:Nat}{args:L_ V}{hs:H_}{post:V->H_->Prop}(hf:P.funcs[f]? = X fn)(hb:fn.body=X c)(hn:fn.ntmps=n)
  (O:Nat.ble args.length n=t_) (hsm:Nat.ble n 639=t_) (h:∀C:Xs,JA P C n->C.rnd=n_->Yz P C c ⟨OG 0 args,hs⟩ (QeY P fn.results.toList post)):QQ P f args hs post:=
 (Wc.enter hf hb hn O hsm λC h1 h2 _=>h C h1 h2).a
end
def V.datC : V->Bool
 |.agg h=>h.all V.dat|v=>v.dat
def V.datA : V->Bool
 |.tup h=>h.all V.datC|v=>v.datC
def V.sca : V->Bool
 |.b _=>t_|.i _ _=>t_|.s _=>t_|.J=>t_|.lit _=>t_|_=>f_
def V.scaC : V->Bool
 |.agg h=>h.all V.sca|v=>v.sca
def V.scaA : V->Bool
 |.tup h=>h.all V.scaC|v=>v.scaC
section
variable {Z φ':Nat->O_ QV}{I I':Nat->Prop}{w w':World}{x:Value}{v:V}
def QR.datC (h:QR Z I w x v)(hv:v.datC=t_)(hI:∀k,I k->I' k/\w'.heap[k]? = w.heap[k]?):QR φ' I' w' x v:=by
 cases v with
 |agg cs=>
  obtain⟨xs,rfl,hs,hr⟩:=h.agg_inv;rw[V.datC,XM]at hv;exact .agg xs cs hs λj x v hx O=>.dat (((hr j x v hx O).toDat (hv v (XG O))).mono hI)
 |_=>exact .dat ((h.toDat hv).mono hI)
def QR.datA (h:QR Z I w x v)(hv:v.datA=t_)(hI:∀k,I k->I' k/\w'.heap[k]? = w.heap[k]?):QR φ' I' w' x v:=by
 cases v with
 |tup cs=>
  obtain⟨xs,rfl,hs,hr⟩:=h.tup_inv;rw[V.datA,XM]at hv;exact .tup xs cs hs λj x v hx O=>(hr j x v hx O).datC (hv v (XG O)) hI
 |_=>exact h.datC hv hI
def QR.sca (h:QR Z I w x v)(O:v.sca=t_):QR φ' I' w' x v:=by
 cases v with|b y=>rw[h.b_inv];exact .dat (.b _)|i k n=>rw[h.i_inv];exact .dat (.i _ _)|s y=>rw[h.s_inv];exact .dat (.s _)|lit y=>rw[h.lit_inv];exact .dat (.lit _)|J=>exact .dat (.J _)|_=>simp[V.sca]at O
def XJ.sca (h:XJ I w x v)(O:v.sca=t_):XJ I' w' x v:=by
 cases v with
 |b y=>cases h;exact .b _
 |i k n=>cases h;exact .i _ _
 |s y=>cases h;exact .s _
 |lit y=>cases h;exact .lit _
 |J=>exact .J _|_=>simp[V.sca]at O
def QR.scaC (h:QR Z I w x v)(hv:v.scaC=t_):QR φ' I' w' x v:=by
 cases v with
 |agg cs=>
  obtain⟨xs,rfl,hs,hr⟩:=h.agg_inv;rw[V.scaC,XM]at hv;exact .agg xs cs hs λj x v hx O=>(hr j x v hx O).sca (hv v (XG O))
 |_=>exact h.sca hv
def QR.scaA (h:QR Z I w x v)(hv:v.scaA=t_):QR φ' I' w' x v:=by
 cases v with
 |tup cs=>
  obtain⟨xs,rfl,hs,hr⟩:=h.tup_inv;rw[V.scaA,XM]at hv;exact .tup xs cs hs λj x v hx O=>(hr j x v hx O).scaC (hv v (XG O))
 |_=>exact h.scaC hv
end
inductive Vq (hp:List (Nat×Ob)) (g:Bool):V->V->Prop where
 |dat (v:V):v.datA=t_->Vq hp g v v
 |nil (z:Nat):Vq hp g (.lit (.slice n_ 0 0)) (.sl z [])
 |own (b n z:Nat) (rs us:List (List V)):g=t_->look hp b=X (.arr z rs)->n<=rs.length->rs.take n=us->Vq hp g (.own b n) (.sl z us)
 |nst (b:Nat) (x:Value) (v:V):g=t_->look hp b=X (.nst x v)->Vq hp g (.lit x) v
 |agg (cs us:List V):cs.length=us.length->(∀(j:Nat) c u,cs[j]? = X c->us[j]? = X u->Vq hp g c u)->Vq hp g (.agg cs) (.agg us)
 |clo (fn:Fn):Vq hp g (.clo fn [] []) (.clo fn [] [])
def QrL (C:Xs)(Z:Nat->O_ QV)(w:World)(g:Bool)(k:Nat):Prop:=Xc C Z w k\/(g=t_/\∃o B,Z o=X B/\B.has k)
section
variable {P:Program}{C:Xs}{Z:Nat->O_ QV}{Y:St}{a:Act}{w:World}{o:Oper}
def Vq.sound {g:Bool}{v u:V}(hr:RR C Z Y a w)(h:Vq Y.hp g v u):∀{x:Value},QR Z (Xc C Z w) w x v->QR (λ_=>n_) (QrL C Z w g) w x u:=by
 induction h with
 |dat v hv=>exact λO=>O.datA hv λk hk=>⟨.inl hk,rfl⟩|nil z=>intro x O;rw[O.lit_inv];exact .dat (.sl0 _ _ _)|own b n z rs us hg hb hle hu=>
  intro x O;subst hu;rcases O.own_inv with⟨rfl,rfl⟩|⟨B,hB,hcap,rfl⟩
  ·simp only[List.take_zero];exact .dat (.sl0 _ _ _)
  obtain⟨rfl,hrl,hok,cs,E,h1,h2,h3⟩:=hr.block hB hb;refine .dat (.sl B.b B.off n B.cap B.z _ (λj=>cs.getD (B.off+j) undef) (.inr ⟨hg,b,B,hB,B.self⟩) (by simp;omega) hcap (λr hr'=>hok r (DV hr')) (λj hj=>?_) (λi r hi j v hj=>?_))
  ·have hle2:n*B.z<=B.cap*B.z:=Ys _ hcap;have:B.off+j<cs.size:=by omega
   simp[World.cell?,h1,Array.getD,this]
  have hi':rs[i]? = X r:=by
   rw[YQ]at hi;by_cases hin:i<n
   ·rwa[if_pos hin]at hi
   rw[if_neg hin]at hi;simp at hi
  obtain⟨y,hy,hd⟩:=h3 i r hi' j v hj;have:cs.getD (B.off+(i*B.z+j)) undef=y:=by simp[Qb6,hy]
  rw[this];exact hd.mono λk hk=>⟨.inl hk,rfl⟩
 |nst b x v hg hb=>
  intro y hy;rw[hy.lit_inv];rcases hr.heap b _ hb with⟨B,hB,hd⟩|⟨_,hn⟩
  ·exact .dat (XJ.mono (λk hk=>⟨.inr ⟨hg,b,B,hB,hk⟩,rfl⟩) hd.1)
  exact .dat (XJ.mono (λk hk=>hk.elim) (hn w))
 |agg cs us hl _ ih=>
  intro x O;obtain⟨xs,rfl,hs,hc⟩:=O.agg_inv;refine .agg xs us (by omega) λj y u hy hu=>?_;have hj:j<cs.length:=by rw[<-hs];exact(Em.1 hy).1
  exact ih j cs[j] u (QI hj) hu (hc j y _ hy (QI hj))
 |clo fn=>
  intro x O;cases O with
  |dat d=>cases d
  |clo _ xs ys _ _ h1 h2 _ _=>exact .clo fn xs ys [] [] h1 h2 (λj y v _ h=>by simp at h) λj y v _ h=>by simp at h
def St.opsV (Y:St):L_ Operand->O_ (L_ V)
 |[]=>X []|x::r=>match Y.opd x,Y.opsV r with|some v,X vs=>X (v::vs)|_,_=>n_
def RR.opsV (hr:RR C Z Y a w):∀(xs:L_ Operand) (vs:L_ V),Y.opsV xs=X vs->xs.length=vs.length/\∀(j:Nat) x v,xs[j]? = X x->vs[j]? = X v->QR Z (Xc C Z w) w (a.eval x) v:=by
 intro xs
 induction xs with
 |nil=>intro vs h;simp only[St.opsV,Option.some.injEq]at h;subst h;simp|cons x xs ih=>
  intro vs h;simp only[St.opsV]at h;split at h
  ·rename_i v vs' hv hvs;cases h;obtain⟨h1,h2⟩:=ih vs' hvs;refine⟨by simp[h1],λj y u hy O=>?_⟩;cases j with|zero=>simp at hy O;subst hy;subst O;exact hr.opd hv|succ j=>exact h2 j y u hy O
  cases h
inductive SD (hp:List (Nat×Ob)) (g:Bool):List V->List V->Prop where
 |nil:SD hp g [] []
 |cons {v u:V} {vs us:List V}:Vq hp g v u->SD hp g vs us->SD hp g (v::vs) (u::us)
def SD.get {hp:H_}{g:Bool}:∀{vs us:L_ V},SD hp g vs us->vs.length=us.length/\∀(j:Nat) v u,vs[j]? = X v->us[j]? = X u->Vq hp g v u:=by
 intro vs us h
 induction h with
 |nil=>simp|cons h1 _ ih=>
  refine⟨by simp[ih.1],λj v u hv O=>?_⟩;cases j with|zero=>simp at hv O;subst hv;subst O;exact h1|succ j=>exact ih.2 j v u hv O
def QeZ (P:Program)(f:FuncId):Bool:=match P.funcs[f]? with
 |some fn=>!(fn.name == "runtime.NumGoroutine")&&fn.body.isSome
 |none=>f_
def Mj {f:FuncId}{args:Array Value}(h:QeZ P f=t_):(callFunc f args).run P w=.ok (.enter f args) w:=by
 unfold QeZ at h;split at h
 ·rename_i fn hf;rw[QL]at h;have h1:(fn.name == "runtime.NumGoroutine")=false:=by simpa using h.1
  have h2:fn.body.isNone=f_:=by
   cases hb:fn.body with|none=>rw[hb]at h;simp at h|some=>rfl
  simp only[callFunc,Xh,run_program,Xp,hf,h1,h2];rfl
 cases h
def RR.called {g:Bool}{φ':Nat->O_ QV}{w':World}{x:Value}{v:V}{hs:H_}(hr:RR C Z Y a w)(O:Outs (QrL C Z w g) (λ_=>n_) w φ' w' x v hs):RR C Z Y a w':=
 hr.step O.os O.tape O.output O.size λk hk=>O.kept k hk λ_ _ h=>by simp at h
def Aft.imm {φ':Nat->O_ QV}{w':World}(hr:RR C Z Y a w){k:Nat}(hk:Aft (QrL C Z w f_) φ' w w' k):Xc C Z w' k:=by
 obtain⟨O,h2,h3⟩:=hk;by_cases h:k<w.heap.size
 ·rcases h2 h with hI|⟨h,_⟩
  ·exact⟨O,hI.2.1,hI.2.2⟩
  cases h
 exact⟨O,λhlt=>absurd hr.size (by omega),λo B hB e=>by have:=(hr.lt o B k hB e).1;omega⟩
def Jo (P:Program)(C:Xs)(o:Oper)(Y:St)(f:FuncId)(vs:L_ V):Prop:=
 ∀Z a w,RR C Z Y a w->∃h:L_ Value,(execOp a.eval o).run P w=.ok (.enter f h.toArray) w/\h.length=vs.length/\
  ∀(j:Nat) x v,h[j]? = X x->vs[j]? = X v->QR Z (Xc C Z w) w x v
def Ins.of_viewsE {g:Bool}{vs us:L_ V}{O:L_ Value}(hr:RR C Z Y a w)(h1:O.length=vs.length)(h2:∀(j:Nat) x v,O[j]? = X x->vs[j]? = X v->QR Z (Xc C Z w) w x v)(hv:SD Y.hp g vs us):
  Ins (QrL C Z w g) (λ_=>n_) w O.toArray us []:=by
 obtain⟨h3,h4⟩:=hv.get;refine⟨λk hk=>?_,λ_ _ _ _ _ h=>(by cases h),λ_ _ h=>(by cases h),by simp;omega,λj x u hx hu=>?_,λ_ _ h=>(by cases h)⟩
 ·rcases hk with hk|⟨_,o,B,hB,hk⟩
  ·exact hk.1
  exact(hr.lt o B k hB hk).1
 have hx:O[j]? = X x:=by simpa using hx
 have hlt:j<vs.length:=by rw[h3];exact(QX.1 hu).1
 exact Vq.sound hr (h4 j vs[j] u (QI hlt) hu) (h2 j x _ hx (QI hlt))
def Stp.callEB {β:Nat}(hβ:β<=C.w0.heap.size){f:FuncId}{d:Nat}{g:Bool}{vs us:L_ V}{r:V}(hE:Jo P C o Y f vs)(hd:o.dst=X d)
  (hn:B_ d C) (hpg:C.pg P) (hv:SD Y.hp g vs us) (hc:Wc β P f us [] λv _=>v=r) (hres:(g=f_/\r.datA=t_)\/r.scaA=t_):
  Stp P C o Y (Y.put d r):=by
 intro a w ⟨Z,hr⟩ next Q hnext;refine⟨λ_ _=>trivial,?_⟩;obtain⟨vals,hex,g1,g2⟩:=hE Z a w hr;rw[Qj8 hex,Oper.uponIn_enter];refine⟨(λh=>by cases h),QiA ((hc _ _ w _ (Yx hβ hr.size) (Ins.of_viewsE hr g1 g2 hv) ((hr.glob hpg).mono λ_ h=>.inl h)).mono ?_)⟩;rintro e w' ⟨x,v,hs',φ',rfl,rfl,O⟩;refine hnext _ _ ⟨Z,?_⟩;rw[hd];refine(hr.called O).put (Xv hn) ?_;rcases hres with⟨rfl,hdat⟩|hsca
 ·exact O.rep.datA hdat λk hk=>⟨Aft.imm hr hk,rfl⟩
 exact O.rep.scaA hsca
def RR.born (hr:RR C Z Y a w){d:Nat}{B:QV}{ob:Ob}{w':World}(hd:d<639)(hf:look Y.hp d=n_)(ho:w'.os=w.os)(ht:w'.tape=w.tape)(hu:w'.output=w.output)(hs:w.heap.size<=w'.heap.size)(hk:∀k,k<w.heap.size->w'.heap[k]? = w.heap[k]?)
  (hB:∀k,B.has k->w.heap.size<=k/\k<w'.heap.size) (hrep:Jg (ext Z d B) (Xc C (ext Z d B) w') w' B ob):RR C (ext Z d B) (Y.set d ob) a w':=by
 have O:RR C Z Y a w':=hr.step ho ht hu hs hk;have hN:=hr.none_of_look hf;have hmono:=O.mono_ext B hN;have hI0:∀k,Xc C Z w k->Xc C (ext Z d B) w' k/\w'.heap[k]? = w.heap[k]? := λk hk'=>
  ⟨⟨AE hk'.1 hs,hk'.2.1,λo' B' h hh=>by
   by_cases e:o'=d
   ·subst e;rw[Xb]at h;cases h;have:=hk'.1;have:=(hB k hh).1;omega
   rw[QP _ e]at h;exact hk'.2.2 o' B' h hh⟩,hk k hk'.1⟩
 refine⟨O.os,O.tape,O.output,O.size,O.kept,?_,?_,?_,?_,⟨?_,λo' ob' B1 hge ho' hB1=>by rw[QP _ (by omega)];exact O.stay.2 o' ob' B1 hge (by rwa[Y.look_set_other _ (by omega)]at ho') hB1⟩,O.tmps,hr.defers.mono hI0,?_,?_⟩
 ·intro o1 o2 B1 B2 k e1 e2 hb hb';by_cases g1:o1=d<;>by_cases g2:o2=d
  ·rw[g1,g2]
  ·subst g1;rw[Xb]at e1;cases e1;rw[QP _ g2]at e2;have:=(hr.lt o2 B2 k e2 hb').1;have:=(hB k hb).1;omega
  ·subst g2;rw[Xb]at e2;cases e2;rw[QP _ g1]at e1;have:=(hr.lt o1 B1 k e1 hb).1;have:=(hB k hb').1;omega
  rw[QP _ g1]at e1;rw[QP _ g2]at e2;exact hr.inj o1 o2 B1 B2 k e1 e2 hb hb'
 ·intro o' B' h;by_cases e:o'=d
  ·subst e;exact⟨_,Y.look_set_same _ _⟩
  rw[QP _ e]at h;obtain⟨ob',h'⟩:=hr.dom o' B' h;exact⟨ob',by rw[Y.look_set_other _ (Ne.symm e)];exact h'⟩
 ·intro o' B' k h hk;by_cases e:o'=d
  ·subst e;rw[Xb]at h;cases h;exact⟨(hB k hk).2,λhlt=>absurd hr.size (by have:=(hB k hk).1;omega)⟩
  rw[QP _ e]at h;exact O.lt o' B' k h hk
 ·intro o' B' k h hk hlt;by_cases e:o'=d
  ·subst e;rw[Xb]at h;cases h;exact Yx hr.size (hB k hk).1
  rw[QP _ e]at h;exact O.new o' B' k h hk hlt
 ·intro o' B' hge h;rw[QP _ (by omega)]at h;exact O.stay.1 o' B' hge h
 ·intro t u hu;obtain⟨y,hy,hrep⟩:=hr.frame t u hu;exact⟨y,hy,hrep.mono hmono hI0⟩
 intro o' ob' ho';by_cases e:o'=d
 ·subst e;rw[Y.look_set_same]at ho';cases ho';exact .inl ⟨B,Xb _ _ _,hrep⟩
 rw[Y.look_set_other _ (Ne.symm e)]at ho';rcases hr.heap o' ob' ho' with⟨B',h,hrep'⟩|⟨e1,e2⟩
 ·exact .inl ⟨B',by rw[QP _ e];exact h,hrep'.mono hmono hI0 λk hk'=>hk _ (hr.lt o' B' k h hk').1⟩
 exact .inr ⟨by rw[QP _ e];exact e1,e2⟩
def Qm6 (z:Nat)(rows:L_ (L_ V))(v:V)(h:H_):Prop:=∃o,v=.own o rows.length/\look h o=X (.arr z rows)
def Stp.callOEB {β:Nat}(hβ:β<=C.w0.heap.size){f:FuncId}{d m z:Nat}{g:Bool}{vs us:L_ V}{rows:L_ (L_ V)}(hE:Jo P C o Y f vs)(hd:o.dst=X d)
  (hn:B_ d C) (hpg:C.pg P) (hv:SD Y.hp g vs us) (hc:Wc β P f us [] (Qm6 z rows)) (hres:g=f_\/∀r∈rows,∀v∈r,v.sca=t_)
  (hf:look Y.hp d=n_) (hm:rows.length=m):Stp P C o Y ((Y.set d (.arr z rows)).put d (.own d m)):=by
 intro a w ⟨Z,hr⟩ next Q hnext;subst hm;refine⟨λ_ _=>trivial,?_⟩;obtain⟨vals,hex,g1,g2⟩:=hE Z a w hr;rw[Qj8 hex,Oper.uponIn_enter];refine⟨(λh=>by cases h),QiA ((hc _ _ w _ (Yx hβ hr.size) (Ins.of_viewsE hr g1 g2 hv) ((hr.glob hpg).mono λ_ h=>.inl h)).mono ?_)⟩;rintro e w' ⟨x,v,hs',φ',rfl,⟨oo,rfl,hlook⟩,O⟩;have hr':=hr.called O;have hN:=hr.none_of_look hf;rw[hd];rcases O.heap oo _ hlook with⟨B,hB,hrep⟩|⟨hnone,hz'⟩
 ·have hBn:∀k,B.has k->w.heap.size<=k:=λk hk=>by
   rcases DX k w.heap.size with h|h
   ·obtain⟨_,_,h2,_⟩:=(O.lt oo B k hB hk).2 h;simp at h2
   exact h
  have hBlt:∀k,B.has k->k<w'.heap.size:=λk hk=>(O.lt oo B k hB hk).1;have hI:∀k,Xc C Z w' k->¬B.has k->Xc C (ext Z d B) w' k/\w'.heap[k]? = w'.heap[k]? := λk hk hne=>⟨⟨hk.1,hk.2.1,λo' B' hB'=>by
   by_cases e:o'=d
   ·subst e;rw[Xb]at hB';cases hB';exact hne
   rw[QP _ e]at hB';exact hk.2.2 o' B' hB'⟩,rfl⟩
  have hA:∀k,Aft (QrL C Z w g) φ' w w' k->¬B.has k:=λk hk=>hk.2.2 oo B hB;obtain⟨hz,hrl,hok,cs,E,h1,h2,h3⟩:=hrep;have hset:RR C (ext Z d B) (Y.set d (.arr z rows)) a w':=by
   refine hr.born (C.slot hn) hf O.os O.tape O.output O.size (λk hk=>O.kept k hk λ_ _ h=>by simp at h) (λk hk=>⟨hBn k hk,hBlt k hk⟩) ⟨hz,hrl,hok,cs,E,h1,h2,λi r hi j v hj=>?_⟩;obtain⟨y,hy,hD⟩:=h3 i r hi j v hj;refine⟨y,hy,?_⟩;rcases hres with rfl|hsc
   ·exact hD.mono λk hk=>hI k (Aft.imm hr hk) (hA k hk)
   exact hD.sca (hsc r (XG hi) v (XG hj))
  refine hnext _ _ ⟨ext Z d B,hset.put (Xv hn) ?_⟩;rcases O.rep.own_inv with⟨rfl,h0⟩|⟨B',hB',hcap,rfl⟩
  ·rw[h0];exact .own0 d
  rw[hB]at hB';cases hB';exact .own d _ B (Xb _ _ _) hcap
 replace hz':rows=[]:=hz';subst hz';refine hnext _ _ ⟨Z,(hr'.setNil (C.slot hn) hf).put (Xv hn) ?_⟩;rcases O.rep.own_inv with⟨rfl,h0⟩|⟨B',hB',_,_⟩
 ·exact .own0 d
 rw[hnone]at hB';cases hB'
def Stp.callE {f:FuncId}{d:Nat}{g:Bool}{vs us:L_ V}{r:V}(hE:Jo P C o Y f vs)(hd:o.dst=X d)
  (hn:B_ d C) (O:C.pg P) (hv:SD Y.hp g vs us) (hc:QQ P f us [] λv _=>v=r) (h:(g=f_/\r.datA=t_)\/r.scaA=t_):
  Stp P C o Y (Y.put d r):=
 Stp.callEB (β:=0) (Nat.zero_le _) hE hd hn O hv hc.b h
def Stp.callOE {f:FuncId}{d m z:Nat}{g:Bool}{vs us:L_ V}{rows:L_ (L_ V)}(hE:Jo P C o Y f vs)(hd:o.dst=X d)
  (hn:B_ d C) (O:C.pg P) (hv:SD Y.hp g vs us) (hc:QQ P f us [] (Qm6 z rows)) (h:g=f_\/∀r∈rows,∀v∈r,v.sca=t_)
  (hf:look Y.hp d=n_) (hm:rows.length=m):Stp P C o Y ((Y.set d (.arr z rows)).put d (.own d m)):=
 Stp.callOEB (β:=0) (Nat.zero_le _) hE hd hn O hv hc.b h hf hm
end
def Qf (n:Int):Int:=IntKind.i64.wrap n
def idx {α:Type}(l:L_ α)(j:Int):O_ α:=if 0<=j then l[j.toNat]? else n_
def chk (c:Bool):O_ Unit:=bif c then X ()else n_
def KI {α:Type}{c:Bool}{x y:O_ α}{r:α}(h:(bif c then x else y)=X r):(c=t_/\x=X r)\/(c=f_/\y=X r):=by
 cases c
 ·exact .inr ⟨rfl,h⟩
 exact .inl ⟨rfl,h⟩
def XO {α β:Type}{o:O_ α}{f:α->O_ β}{r:β}(h:o.bind f=X r):∃x,o=X x/\f x=X r:=Pg.1 h
def QiE {c:Bool}{u:Unit}(h:chk c=X u):c=t_:=by
 cases c
 ·cases h
 rfl
def Kg {α:Type}{l:L_ α}{j:Int}{x:α}(h:idx l j=X x):0<=j/\l[j.toNat]? = X x:=by
 unfold idx at h;split at h
 ·exact⟨by assumption,h⟩
 cases h
def QzD {α:Type}{l:L_ α}{j:Int}{x:α}(h:idx l j=X x):j<l.length:=by
 obtain⟨h0,O⟩:=Kg h;have:=(QX.1 O).1;omega
def Jf {α β:Type}{l:L_ α}{f:α->β}{i:Nat}{x:α}(h:l[i]? = X x):(l.map f)[i]? = X (f x):=by rw[Ya,h];rfl
def Gb {α β:Type}{l:L_ α}{f:α->β}{i:Nat}{x:α}{r:β}(h:r=f x):(l.map f).set i r=(l.set i x).map f:=by rw[h,List.map_set]
def Yg {α β:Type}{l m:L_ α}{f:α->β}:l.map f++m.map f=(l++m).map f:=by simp
def Qm7 {α β:Type}{f:α->β}{n:Nat}{x:α}{r:β}(h:r=f x):List.replicate n r=(List.replicate n x).map f:=by rw[h];simp
def Ql {α β:Type}{l:L_ α}{f:α->β}:(l.map f).length=l.length:=KO f
def QrM (c:Bool):c=t_\/c=f_:=by cases c<;>simp
def YN {c x y:Bool}(h:c=t_)(e:x=y):x=(c&&y):=by rw[h,e];rfl
def Kl {c x y:Bool}(h:c=f_)(e:x=f_):x=(c&&y):=by rw[h,e];rfl
def Gt {c x y:Bool}(h:c=t_)(e:x=t_):x=(c||y):=by rw[h,e];rfl
def JQ {c x y:Bool}(h:c=f_)(e:x=y):x=(c||y):=by rw[h,e];rfl
def Qo5 {c x y z:Bool}(h:c=t_)(e:x=y):x=(bif c then y else z):=by rw[h,e];rfl
def QtB {c x y z:Bool}(h:c=f_)(e:x=z):x=(bif c then y else z):=by rw[h,e];rfl
section
variable {P:Program}{C:Xs}{ops:Array Oper}{Y:St}{Q:Exit->St->Prop}{c:Code}
def Yz.to (fr:S_)(hp:H_)(hf:Nt Y.fr fr)(hh:Hn Y.hp hp)(hk:St.closed ⟨fr,hp⟩=t_)(h:Yz P C c ⟨fr,hp⟩ Q):Yz P C c Y Q:=
 Yz.weaken (λ_ _ O=>O.to hf hh hk) h
def AL.to {rest:L_ Oper}(fr:S_)(hp:H_)(hf:Nt Y.fr fr)(hh:Hn Y.hp hp)(hk:St.closed ⟨fr,hp⟩=t_)(h:AL P C ops rest ⟨fr,hp⟩ Q):AL P C ops rest Y Q:=
 AL.weaken (λ_ _ O=>O.to hf hh hk) h
def AL.adopt {rest:L_ Oper}{t b z:Nat}(O:b<639)(ht:look Y.fr t=X (.lit (.slice n_ 0 0)))(hb:look Y.hp b=n_)(h:AL P C ops rest ((Y.set b (.arr z [])).put t (.own b 0)) Q):AL P C ops rest Y Q:=
 AL.weaken (λ_ _ hR=>hR.adopt O ht hb) h
def Yz.adopt {t b z:Nat}(O:b<639)(ht:look Y.fr t=X (.lit (.slice n_ 0 0)))(hb:look Y.hp b=n_)(h:Yz P C c ((Y.set b (.arr z [])).put t (.own b 0)) Q):Yz P C c Y Q:=
 Yz.weaken (λ_ _ hR=>hR.adopt O ht hb) h
end
section
variable {P:Program}{C:Xs}{Y:St}{o:Oper}
def Stp.extract {d i:Nat}{x:Operand}{vs:L_ V}{v:V}(ho:o.op=.extract x i)(hd:o.dst=X d)(hn:B_ d C)(hx:Y.opd x=X (.tup vs))(h:vs[i]? = X v):Stp P C o Y (Y.put d v):=by
 refine Stp.same hd hn λZ a w hr=>?_;obtain⟨xs,he,hs,O⟩:=(hr.opd hx).tup_inv;have hi:i<xs.size:=by rw[hs];exact(QX.1 h).1
 exact⟨xs[i],by simp[execOp,ho,he,Instr.extract,hi],O i _ v (GR hi) h⟩
def Stp.appS {T U d e e' z z' by_ by' b n m:Nat}{x y:Operand}{rs us rs':L_ (L_ V)}{zs:L_ V}(ho:o.op=.call { callee:=.builtin .append,args:=#[x,y],argTypes:=#[T,U] })
  (hd:o.dst=X d) (hn:B_ d C) (hx:Y.opd x=X (.own b n)) (hb:look Y.hp b=X (.arr z rs)) (h:Nat.ble 639 b=f_) (hnl:rs.length=n)
  (hT:XZ P T=X (e,z,by_)) (hU:XZ P U=X (e',z',by')) (hz:Xm P e=X zs) (hzl:zs.length=z) (hz0:z≠0) (O:Nat.ble by_ 32768=t_) (hsm:decide (n+us.length<=4294967296)=t_)
  (hy:Y.opd y=X (.sl z us)) (he:rs++us=rs') (hm:n+us.length=m):Stp P C o Y (Y.app b z d m rs'):=
 Stp.append ho hd hn hx hb h hnl hT hU hz hzl hz0 (JT O) (QZ hsm) (λZ a w hr=>(hr.opd hy).source_sl) he hm
def Stp.appO {T U d e e' z z' by_ by' b b' n h m:Nat}{x y:Operand}{rs us rs':L_ (L_ V)}{zs:L_ V}(ho:o.op=.call { callee:=.builtin .append,args:=#[x,y],argTypes:=#[T,U] })
  (hd:o.dst=X d) (hn:B_ d C) (hx:Y.opd x=X (.own b n)) (hb:look Y.hp b=X (.arr z rs)) (hb1:Nat.ble 639 b=f_) (hnl:rs.length=n)
  (hT:XZ P T=X (e,z,by_)) (hU:XZ P U=X (e',z',by')) (hz:Xm P e=X zs) (hzl:zs.length=z) (hz0:z≠0) (hby:Nat.ble by_ 32768=t_) (hsm:decide (n+h<=4294967296)=t_)
  (hy:Y.opd y=X (.own b' h)) (O:look Y.hp b'=X (.arr z us)) (hle:us.length=h) (he:rs++us=rs') (hm:n+h=m):Stp P C o Y (Y.app b z d m rs'):=by
 subst hle;refine Stp.append ho hd hn hx hb hb1 hnl hT hU hz hzl hz0 (JT hby) (QZ hsm) (λZ a w hr=>?_) he hm;have:=(hr.opd hy).source_own hr O (YK _);rwa[Hm]at this
def Stp.appN {T U d e e' z z' by_ by' b n:Nat}{x y:Operand}{rs:L_ (L_ V)}{zs:L_ V}(ho:o.op=.call { callee:=.builtin .append,args:=#[x,y],argTypes:=#[T,U] })
  (hd:o.dst=X d) (hn:B_ d C) (hx:Y.opd x=X (.own b n)) (hb:look Y.hp b=X (.arr z rs)) (h:Nat.ble 639 b=f_) (hnl:rs.length=n)
  (hT:XZ P T=X (e,z,by_)) (hU:XZ P U=X (e',z',by')) (hz:Xm P e=X zs) (hzl:zs.length=z) (hz0:z≠0) (O:Nat.ble by_ 32768=t_) (hsm:decide (n<=4294967296)=t_)
  (hy:Y.opd y=X (.lit (.slice n_ 0 0))):Stp P C o Y (Y.app b z d n rs):=by
 refine Stp.append (us:=[]) ho hd hn hx hb h hnl hT hU hz hzl hz0 (JT O) (by simpa using QZ hsm) (λZ a w hr=>?_) (by simp) (by simp);exact .inl ⟨n_,0,(hr.opd hy).lit_inv,rfl⟩
end
def Km (a b:ByteArray):Bool:=a.toList==b.toList
def sidx (s:ByteArray)(j:Int):O_ Int:=if 0<=j then(s[j.toNat]?).map λc=>(c.toNat:Int)else n_
def max2 (x y:Int):Int:=if y > x then y else x
def min2 (x y:Int):Int:=if y<x then y else x
def neZ {n:Int}(h:(n != 0)=t_):n≠0:=by simpa using h
def Qm8 (P:Program)(t:TypeId):Bool:=match P.underlying t with|some .bool=>true|_=>f_
def QuC {P:Program}{T:Nat}(h:Qm8 P T=t_):P.underlying T=X .bool:=by
 unfold Qm8 at h;split at h
 ·assumption
 cases h
def QtC {P:Program}{T:Nat}{m n:Bool}{w:World}(h:P.underlying T=X .bool):(Op.equal T (.bool m) (.bool n)).run P w=.ok (m==n) w:=by
 have e:Op.equal T (.bool m) (.bool n)=Op.equalIn (9999+1) T (.bool m) (.bool n):=rfl;rw[e,Op.equalIn];simp only[Xh,run_underlying h,Xp,Xq]
section
variable {P:Program}{C:Xs}{Y:St}{o:Oper}
def Stp.eqB {op:BinOp}{x y:Operand}{T U d:Nat}{m n:Bool}{v:V}(ho:o.op=.binOp op T x y U)(hd:o.dst=X d)(hn:B_ d C)(hx:Y.opd x=X (.b m))(hy:Y.opd y=X (.b n))
  (hT:Qm8 P T=t_) (hv:(op=.eql/\v=.b (m==n))\/(op=.neq/\v=.b (m != n))):Stp P C o Y (Y.put d v):=by
 refine Stp.same hd hn λZ a w h=>?_;have O:=(h.opd hx).b_inv;have h2:=(h.opd hy).b_inv;have hu:=QuC hT;rcases hv with⟨rfl,rfl⟩|⟨rfl,rfl⟩ <;>
  exact⟨.bool _,by simp only[execOp,ho,O,h2,Xh,eqGuard_at_bool,Xq,Xp,binOp,QtC hu];try rfl,.dat (.b _)⟩
def Stp.eqS {op:BinOp}{x y:Operand}{T U d:Nat}{m n:ByteArray}{v:V}(ho:o.op=.binOp op T x y U)(hd:o.dst=X d)(hn:B_ d C)(hx:Y.opd x=X (.s m))(hy:Y.opd y=X (.s n))
  (hv:(op=.eql/\v=.b (Km m n))\/(op=.neq/\v=.b (!Km m n))):Stp P C o Y (Y.put d v):=by
 refine Stp.same hd hn λZ a w hr=>?_;have h:=(hr.opd hx).s_inv;have O:=(hr.opd hy).s_inv;rcases hv with⟨rfl,rfl⟩|⟨rfl,rfl⟩
 ·exact⟨.bool (Km m n),by simp[execOp,ho,h,O,eqGuard,binOp,Op.stringOp,Km],.dat (.b _)⟩
 exact⟨.bool (!Km m n),by simp[execOp,ho,h,O,eqGuard,binOp,Op.stringOp,Km],.dat (.b _)⟩
def Stp.idxStr' {T d:Nat}{x y:Operand}{k:IntKind}{j r:Int}{s:ByteArray}(ho:o.op=.index T x y)(hd:o.dst=X d)(hn:B_ d C)
  (hx:Y.opd x=X (.s s)) (hy:Y.opd y=X (.i k j)) (O:QeX P T=t_) (h:sidx s j=X r):Stp P C o Y (Y.put d (.i .u8 r)):=by
 unfold sidx at h;split at h
 ·obtain⟨c,hc,rfl⟩:=Yf.1 h;exact Stp.idxStr ho hd hn hx hy O (by assumption) hc
 cases h
def Stp.lenS' {T d e z z' by_ n:Nat}{x:Operand}{rows:L_ (L_ V)}(ho:o.op=.call { callee:=.builtin .len,args:=#[x],argTypes:=#[T] })(O:o.dst=X d)(hn:B_ d C)
  (hx:Y.opd x=X (.sl z rows)) (h:XZ P T=X (e,z',by_)) (hl:rows.length=n):Stp P C o Y (Y.put d (.i .i64 n)):=by
 subst hl;exact Stp.lenS ho O hn hx h
def Stp.make' {T d e z by_:Nat}{x y:Operand}{zs:L_ V}{rs:L_ (L_ V)}{k k':IntKind}{l c:Int}(ho:o.op=.makeSlice T x y)(hd:o.dst=X d)(hn:B_ d C)
  (hx:Y.opd x=X (.i k l)) (hy:Y.opd y=X (.i k' c)) (hT:XZ P T=X (e,z,by_)) (hz:Xm P e=X zs) (hzl:zs.length=z) (hz0:z≠0) (h:zs.all V.one=t_)
  (O:(decide (0<=l)&&decide (l<=c)&&decide (c<=4294967296))=t_) (hby:Nat.ble by_ 32768=t_) (hf:look Y.hp d=n_) (hrs:List.replicate l.toNat zs=rs):
  Stp P C o Y ((Y.set d (.arr z rs)).put d (.own d l.toNat)):=by
 subst hrs;simp only[QL,QT]at O;exact Stp.make ho hd hn hx hy hT hz hzl hz0 h O.1.1 O.1.2 (JT hby) O.2 hf
def Stp.max2 {d:Nat}{x y:Operand}{k:IntKind}{m n:Int}{ts:Array TypeId}(ho:o.op=.call { callee:=.builtin .max,args:=#[x,y],argTypes:=ts })(O:o.dst=X d)(hn:B_ d C)
  (hx:Y.opd x=X (.i k m)) (hy:Y.opd y=X (.i k n)):Stp P C o Y (Y.put d (.i k (Vm.max2 m n))):=by
 refine Stp.same O hn λZ a w h=>⟨.int k (Vm.max2 m n),?_,.dat (.i _ _)⟩;simp[execOp,ho,(h.opd hx).i_inv,(h.opd hy).i_inv,resolve,invoke,builtin,Builtin.max_,Builtin.max2,Vm.max2]
def Stp.min2 {d:Nat}{x y:Operand}{k:IntKind}{m n:Int}{ts:Array TypeId}(ho:o.op=.call { callee:=.builtin .min,args:=#[x,y],argTypes:=ts })(O:o.dst=X d)(hn:B_ d C)
  (hx:Y.opd x=X (.i k m)) (hy:Y.opd y=X (.i k n)):Stp P C o Y (Y.put d (.i k (Vm.min2 m n))):=by
 refine Stp.same O hn λZ a w h=>⟨.int k (Vm.min2 m n),?_,.dat (.i _ _)⟩;simp[execOp,ho,(h.opd hx).i_inv,(h.opd hy).i_inv,resolve,invoke,builtin,Builtin.min_,Builtin.min2,Vm.min2]
end
def V.renC (o o':Nat):V->V
 |.own p n=>.own (bif Nat.beq p o then o' else p) n|.tl _ _ _=>.J|.loc p k l=>.loc (bif Nat.beq p o then o' else p) k l|.map p=>.map (bif Nat.beq p o then o' else p)|.ifc t x=>.ifc t (x.renC o o')|.agg h=>bif h.all V.plain then .agg h else .J|.tup _=>.J|.clo _ _ _=>.J|v=>v
def V.ren (o o':Nat):V->V
 |.agg h=>.agg (h.map (V.renC o o'))|.clo fn fs h=>.clo fn (fs.map (V.renC o o')) (h.map (V.renC o o'))|v=>v.renC o o'
def Ob.ren (o o':Nat):Ob->Ob
 |.var h=>.var (h.map (V.ren o o'))|.lp l K h q=>.lp l K (h.map (V.ren o o')) q|ob=>ob
def Qj9 (o o':Nat):S_->S_
 |[]=>[]|(t,v)::r=>(t,v.ren o o')::Qj9 o o' r
def Qka (o o':Nat):H_->H_
 |[]=>[]|(p,ob)::r=>(bif Nat.beq p o then o' else p,ob.ren o o')::Qka o o' r
def St.ren (Y:St)(o o':Nat):St:=⟨Qj9 o o' Y.fr,Qka o o' Y.hp⟩
section
variable {Z φ':Nat->O_ QV}{I:Nat->Prop}{w:World}{o o':Nat}
def Er (p o o':Nat):(p=o/\(bif Nat.beq p o then o' else p)=o')\/(p≠o/\(bif Nat.beq p o then o' else p)=p):=by
 cases h:Nat.beq p o with|true=>exact .inl ⟨Yr h,rfl⟩|false=>exact .inr ⟨λe=>by subst e;simp at h,rfl⟩
def QR.renC (h1:∀B,Z o=X B->φ' o'=X B)(h2:∀p B,p≠o->Z p=X B->φ' p=X B){x:Value}{v:V}(h:QR Z I w x v):QR φ' I w x (v.renC o o'):=by
 have key:∀p B,Z p=X B->φ' (bif Nat.beq p o then o' else p)=X B:=by
  intro p B O;rcases Er p o o' with⟨e,e2⟩|⟨e,e2⟩
  ·rw[e2];exact h1 B (e▸O)
  rw[e2];exact h2 p B e O
 induction h with
 |dat h=>
  have:∀{x:Value} {v:V},XJ I w x v->QR φ' I w x (v.renC o o'):=by
   intro x v h
   induction h with
   |ifc t x v _ ih=>exact .ifc t x _ ih|agg xs cs hs hr=>
    unfold V.renC;cases h:cs.all V.plain with|true=>exact .dat (.agg xs cs hs hr)|false=>exact .dat (.J _)
   |tup=>exact .dat (.J _)|b=>exact .dat (.b _)|i=>exact .dat (.i _ _)|s=>exact .dat (.s _)|lit=>exact .dat (.lit _)|J=>exact .dat (.J _)|sl0=>exact .dat (.sl0 _ _ _)|sl b off len cap z rows c a1 a2 a3 a4 a5 a6 _=>exact .dat (.sl b off len cap z rows c a1 a2 a3 a4 a5 a6)|e0=>exact .dat (.e0 _)|sln0=>exact .dat (.sln0 _ _ _ _)|sln β b off len cap z rows c E a0 a1 a2 a3 a4 a5 a6 a7 _=>exact .dat (.sln β b off len cap z rows c E a0 a1 a2 a3 a4 a5 a6 a7)|ro b off cs c a1 a2 a3 a4 _=>exact .dat (.ro b off cs c a1 a2 a3 a4)
  exact this h
 |own0 p=>exact .own0 _|own p n B O hn=>exact .own _ n B (key p B O) hn|tl0=>exact .dat (.J _)|tl=>exact .dat (.J _)|loc p i d B O=>exact .loc _ i d B (key p B O)|map p B O=>exact .map _ B (key p B O)|ifc t x v _ ih=>exact .ifc t x _ ih|agg xs cs hs hr _=>
  unfold V.renC;cases h:cs.all V.plain with|true=>exact .dat (QR.aggPlain hs hr h)|false=>exact .dat (.J _)
 |tup=>exact .dat (.J _)|clo=>exact .dat (.J _)
def QR.ren (h1:∀B,Z o=X B->φ' o'=X B)(h2:∀p B,p≠o->Z p=X B->φ' p=X B){x:Value}{v:V}(h:QR Z I w x v):QR φ' I w x (v.ren o o'):=by
 cases v with
 |agg cs=>
  obtain⟨xs,rfl,hs,hr⟩:=h.agg_inv;refine .agg xs _ (by simpa using hs) λj x v hx O=>?_;rw[Ya]at O;obtain⟨u,hu,rfl⟩:=Yf.1 O;exact(hr j x u hx hu).renC h1 h2
 |clo fn vs us=>
  obtain⟨xs,ys,rfl,e1,e2,e3,e4⟩:=h.clo_inv;refine .clo fn xs ys _ _ (by simpa using e1) (by simpa using e2) (λj x v hx O=>?_) (λj x v hx O=>?_)
  ·rw[Ya]at O;obtain⟨u,hu,rfl⟩:=Yf.1 O;exact(e3 j x u hx hu).renC h1 h2
  rw[Ya]at O;obtain⟨u,hu,rfl⟩:=Yf.1 O;exact(e4 j x u hx hu).renC h1 h2
 |_=>exact h.renC h1 h2
def Jg.ren (h1:∀B,Z o=X B->φ' o'=X B)(h2:∀p B,p≠o->Z p=X B->φ' p=X B){B:QV}{ob:Ob}(h:Jg Z I w B ob):Jg φ' I w B (ob.ren o o'):=by
 cases ob with
 |var vs=>
  obtain⟨cs,E,e1,e2,e0,e3⟩:=h;refine⟨cs,E,e1,by simpa using e2,e0,λj x v hx O=>?_⟩;rw[Ya]at O;obtain⟨u,hu,rfl⟩:=Yf.1 O;exact(e3 j x u hx hu).ren h1 h2
 |lp l K vs q=>
  obtain⟨tmps,D,e0,e1,e2,e3,e4⟩:=h;refine⟨tmps,D,e0,e1,e2,by simpa using e3,λj x v hx O=>?_⟩;rw[Ya]at O;obtain⟨u,hu,rfl⟩:=Yf.1 O;exact(e4 j x u hx hu).ren h1 h2
 |arr z rs=>exact h|map l=>exact h|grp z l lk=>exact h|mapX bm clock L l=>exact h|itr bm since seen cur=>exact h|itr0=>exact h|tbl A z rs=>exact h|nst x v=>exact h|scr D H=>exact h
def Ob.Nil.ren {ob:Ob}(h:ob.Nil):(ob.ren o o').Nil:=by cases ob<;>first|exact h|exact h.elim
end
def Qm9 {o o':Nat}:∀(l:S_) (t:Nat) (v:V),look (Qj9 o o' l) t=X v->∃O,look l t=X O/\v=O.ren o o':=by
 intro l
 induction l with
 |nil=>intro t v h;cases h
 |cons p l ih=>
  intro t v h;obtain⟨k,u⟩:=p;by_cases e:k=t
  ·subst e;rw[Qj9,QB]at h;cases h;exact⟨u,QB _ _ _,rfl⟩
  rw[Qj9,Qz _ _ e]at h;rw[Qz _ _ e];exact ih t v h
def QaE {o o':Nat}:∀(l:H_) (p:Nat) (ob:Ob),look l o'=n_->look l p=X ob->look (Qka o o' l) (bif Nat.beq p o then o' else p)=X (ob.ren o o'):=by
 intro l
 induction l with
 |nil=>intro p ob _ h;cases h
 |cons q l ih=>
  intro p ob O h;obtain⟨k,u⟩:=q;have hk:k≠o':=λe=>by subst e;rw[QB]at O;cases O
  rw[Qz _ _ hk]at O;rw[Qka];by_cases e:k=p
  ·subst e;rw[QB]at h;cases h;exact QB _ _ _
  rw[Qz _ _ e]at h;have ne:(bif Nat.beq k o then o' else k)≠(bif Nat.beq p o then o' else p):=by
   have hp:p≠o':=λe'=>by rw[e',O]at h;cases h
   rcases Er k o o' with⟨a1,a2⟩|⟨a1,a2⟩<;>rcases Er p o o' with⟨b1,b2⟩|⟨b1,b2⟩<;>rw[a2,b2]<;>omega
  rw[Qz _ _ ne];exact ih p ob O h
def QbA {o o':Nat}:∀(l:H_) (q:Nat) (ob:Ob),look l o'=n_->look (Qka o o' l) q=X ob->∃p ob',q=(bif Nat.beq p o then o' else p)/\look l p=X ob'/\ob=ob'.ren o o':=by
 intro l
 induction l with
 |nil=>intro p ob _ h;cases h
 |cons x l ih=>
  intro q ob O h;obtain⟨k,u⟩:=x;have hk:k≠o':=λe=>by subst e;rw[QB]at O;cases O
  rw[Qz _ _ hk]at O;rw[Qka]at h;by_cases e:(bif Nat.beq k o then o' else k)=q
  ·subst e;rw[QB]at h;cases h;exact⟨k,u,rfl,QB _ _ _,rfl⟩
  rw[Qz _ _ e]at h;obtain⟨p,ob',h1,h2,h3⟩:=ih q ob O h;refine⟨p,ob',h1,?_,h3⟩;rw[Qz _ _ (λe2=>e (by rw[e2,h1]))];exact h2
section
variable {C:Xs}{Y:St}{a:Act}{w:World}
def R.ren (h:R C Y a w)(o o':Nat)(ho:Nat.ble 635 o=f_)(ho':Nat.ble 635 o'=f_)(hn:look Y.hp o'=n_):R C (Y.ren o o') a w:=by
 obtain⟨Z,O⟩:=h;have hφn:=O.none_of_look hn;by_cases eo:o=o'
 ·
  subst eo;have hfr:∀t v,look (Qj9 o o Y.fr) t=X v->∃v',look Y.fr t=X v'/\v=v'.ren o o:=Qm9 Y.fr;refine⟨Z,O.os,O.tape,O.output,O.size,O.kept,O.inj,λp B hB=>?_,O.lt,O.new,O.stay.sub (λq ob hq=>let ⟨p,ob',e1,e2,_⟩:=QbA Y.hp q ob hn hq;⟨ob',by rcases Er p o o with⟨a1,a2⟩|⟨a1,a2⟩<;>rw[e1,a2];exact a1▸e2;exact e2⟩),O.tmps,O.defers,λt v hv=>?_,λq ob hq=>?_⟩
  ·obtain⟨ob,hob⟩:=O.dom p B hB;have:=QaE (o:=o) (o':=o) Y.hp p ob hn hob;rcases Er p o o with⟨e1,e2⟩|⟨e1,e2⟩
   ·rw[e1,hφn]at hB;cases hB
   rw[e2]at this;exact⟨_,this⟩
  ·obtain⟨v',hv',rfl⟩:=hfr t v hv;obtain⟨x,hx,hrep⟩:=O.frame t v' hv';exact⟨x,hx,hrep.ren (λB h=>h) (λp B _ h=>h)⟩
  obtain⟨p,ob',e1,e2,rfl⟩:=QbA Y.hp q ob hn hq;have:q=p:=by rcases Er p o o with⟨a1,a2⟩|⟨a1,a2⟩<;>rw[e1,a2];exact a1.symm
  subst this;rcases O.heap q ob' e2 with⟨B,hB,hrep⟩|⟨h1,hz⟩
  ·exact .inl ⟨B,hB,hrep.ren (λB h=>h) (λp B _ h=>h)⟩
  exact .inr ⟨h1,hz.ren⟩
 let φ':Nat->O_ QV:=λk=>if k=o' then Z o else if k=o then n_ else Z k;have h1:∀B,Z o=X B->φ' o'=X B:=λB hB=>by simp only[φ',if_true];exact hB
 have h2:∀p B,p≠o->Z p=X B->φ' p=X B:=λp B hp hB=>by
  have:p≠o':=λe=>by rw[e,hφn]at hB;cases hB
  simp only[φ',if_neg this,if_neg hp];exact hB
 have inv:∀q B,φ' q=X B->(q=o'/\Z o=X B)\/(q≠o'/\q≠o/\Z q=X B):=by
  intro q B hB;simp only[φ']at hB;split at hB
  ·exact .inl ⟨by assumption,hB⟩
  split at hB
  ·cases hB
  exact .inr ⟨by assumption,by assumption,hB⟩
 have hI:∀k,Xc C Z w k->Xc C φ' w k:=λk hk=>⟨hk.1,hk.2.1,λq B hB=>by
  rcases inv q B hB with⟨_,h⟩|⟨_,_,h⟩
  ·exact hk.2.2 o B h
  exact hk.2.2 q B h⟩
 have hlt:o<635:=by
  rcases DX o 635 with h|h
  ·exact h
  rw[Zm h]at ho;cases ho
 have up:∀{x:Value} {v:V},QR Z (Xc C Z w) w x v->QR Z (Xc C φ' w) w x v:=λh=>h.mono (λ_ _ h=>h) (λk hk=>⟨hI k hk,rfl⟩);refine⟨φ',O.os,O.tape,O.output,O.size,O.kept,λp q B B' k e1 e2 hb hb'=>?_,λq B hB=>?_,λq B k hB hk=>?_,λq B k hB hk hq=>?_,⟨λq B hq hB=>?_,λq ob B hge hq hB=>by
  obtain⟨p,ob',e1,e2,_⟩:=QbA Y.hp q ob hn hq;have hlt':o'<635:=by
   rcases DX o' 635 with h|h
   ·exact h
   rw[Zm h]at ho';cases ho'
  have:q=p:=by
   rcases Er p o o' with⟨a1,a2⟩|⟨a1,a2⟩
   ·rw[a2]at e1;omega
   rw[a2]at e1;exact e1
  subst this;have h1:=O.stay.2 q ob' B hge e2 hB;show φ' q=X B;simp only[φ'];rw[if_neg (by omega),if_neg (by omega)];exact h1⟩,O.tmps,O.defers.mono λk hk=>⟨hI k hk,rfl⟩,λt v hv=>?_,λq ob hq=>?_⟩
 ·rcases inv p B e1 with⟨a1,a2⟩|⟨a1,a2,a3⟩<;>rcases inv q B' e2 with⟨b1,b2⟩|⟨b1,b2,b3⟩
  ·rw[a1,b1]
  ·exact absurd (O.inj o q B B' k a2 b3 hb hb').symm b2
  ·exact absurd (O.inj p o B B' k a3 b2 hb hb') a2
  exact O.inj p q B B' k a3 b3 hb hb'
 ·rcases inv q B hB with⟨a1,a2⟩|⟨a1,a2,a3⟩
  ·obtain⟨ob,hob⟩:=O.dom o B a2;have:=QaE (o:=o) (o':=o') Y.hp o ob hn hob;rcases Er o o o' with⟨_,e⟩|⟨e,_⟩
   ·rw[e]at this;rw[a1];exact⟨_,this⟩
   exact absurd rfl e
  obtain⟨ob,hob⟩:=O.dom q B a3;have:=QaE (o:=o) (o':=o') Y.hp q ob hn hob;rcases Er q o o' with⟨e,_⟩|⟨_,e⟩
  ·exact absurd e a2
  rw[e]at this;exact⟨_,this⟩
 ·rcases inv q B hB with⟨a1,a2⟩|⟨a1,a2,a3⟩
  ·exact O.lt o B k a2 hk
  exact O.lt q B k a3 hk
 ·rcases inv q B hB with⟨a1,a2⟩|⟨a1,a2,a3⟩
  ·exact O.new o B k a2 hk hlt
  exact O.new q B k a3 hk hq
 ·rcases inv q B hB with⟨a1,a2⟩|⟨a1,a2,a3⟩
  ·have:o'<635:=by
    rcases DX o' 635 with h|h
    ·exact h
    rw[Zm h]at ho';cases ho'
   omega
  exact O.stay.1 q B hq a3
 ·obtain⟨v',hv',rfl⟩:=Qm9 _ _ _ hv;obtain⟨x,hx,hrep⟩:=O.frame t v' hv';exact⟨x,hx,(up hrep).ren h1 h2⟩
 obtain⟨p,ob',e1,e2,rfl⟩:=QbA Y.hp q ob hn hq;rcases O.heap p ob' e2 with⟨B,hB,hrep⟩|⟨hnn,hz⟩
 ·have hrep':Jg Z (Xc C φ' w) w B ob':=hrep.mono (λ_ _ h=>h) (λk hk=>⟨hI k hk,rfl⟩) λ_ _=>rfl;refine .inl ⟨B,?_,hrep'.ren h1 h2⟩;rcases Er p o o' with⟨a1,a2⟩|⟨a1,a2⟩
  ·rw[e1,a2];exact h1 B (a1▸hB)
  rw[e1,a2];exact h2 p B a1 hB
 refine .inr ⟨?_,hz.ren⟩;rcases Er p o o' with⟨a1,a2⟩|⟨a1,a2⟩
 ·rw[e1,a2];simp only[φ',if_true];rw[<-a1];exact hnn
 have:p≠o':=λe=>by rw[e,hn]at e2;cases e2
 rw[e1,a2];simp only[φ',if_neg this,if_neg a1];exact hnn
end
section
variable {P:Program}{C:Xs}{ops:Array Oper}{Y:St}{Q:Exit->St->Prop}{c:Code}
def AL.ren {rest:L_ Oper}(o o':Nat)(ho:Nat.ble 635 o=f_)(O:Nat.ble 635 o'=f_)(hn:look Y.hp o'=n_)(h:AL P C ops rest (Y.ren o o') Q):AL P C ops rest Y Q:=
 AL.weaken (λ_ _ hR=>hR.ren o o' ho O hn) h
def Yz.ren (o o':Nat)(ho:Nat.ble 635 o=f_)(O:Nat.ble 635 o'=f_)(hn:look Y.hp o'=n_)(h:Yz P C c (Y.ren o o') Q):Yz P C c Y Q:=
 Yz.weaken (λ_ _ hR=>hR.ren o o' ho O hn) h
end
def QxB {α:Type}{f:α->L_ V}(h:∀x,(f x).all V.sca=t_)(l:L_ α):∀r∈l.map f,∀v∈r,v.sca=t_:=by
 intro r O v hv;obtain⟨x,_,rfl⟩:=Ye.1 O;have:=h x;rw[XM]at this;exact this v hv
structure DF where
 d:Nat
 v:V
 ob:Option Ob
def St.addF (Y:St)(x:DF):St:=match x.ob with|none=>Y.put x.d x.v|some ob=>(Y.set x.d ob).put x.d x.v
def QgY (Y:St)(x:DF):Prop:=look Y.fr x.d=X x.v/\∀ob,x.ob=X ob->look Y.hp x.d=X ob
def JL (P:Program)(C:Xs)(ops:Array Oper)(o:Oper)(Y σ':St):Prop:=
 ∀a w,R C Y a w->∀(K:Act->World->Prop) (Q:Exit->Act->World->Prop),(∀h w',R C σ' h w'->K h w')->
  if Region.wanted o (yielded ops a.tmps)then o.wpIn C.F 0 P a w K Q else K (a.put o.dst undef) w
section
variable {P:Program}{C:Xs}{ops:Array Oper}{Y σ':St}{Q:Exit->St->Prop}{o:Oper}
def JL.run (hg:o.guard=n_)(h:Stp P C o Y σ'):JL P C ops o Y σ':=by
 intro a w hR K Q O;simp only[Region.wanted,hg,if_true];exact h a w hR K Q O
def JL.runG {j d:Nat}{c t:Bool}(hg:o.guard=X (j,t))(hj:((ops[j]?).bind (·.dst))=X d)(hv:look Y.fr d=X (.b c))(hc:c=t)(h:Stp P C o Y σ'):JL P C ops o Y σ':=by
 intro a w O K Q hK;subst hc;simp only[Region.wanted,hg,O.yielded hj hv,beq_self_eq_true,if_true];exact h a w O K Q hK
def JL.pass {j d t:Nat}{c u:Bool}(hg:o.guard=X (j,u))(hj:((ops[j]?).bind (·.dst))=X d)(hv:look Y.fr d=X (.b c))(hc:c=!u)(ho:o.dst=X t)(ht:B_ t C):
  JL P C ops o Y (Y.put t (.lit undef)):=by
 intro a w h K Q O;simp only[Region.wanted,hg,h.yielded hj hv];rw[if_neg (by subst hc;cases u<;>decide)];obtain⟨Z,hr⟩:=h;rw[ho];exact O _ _ ⟨Z,hr.put (JT ht) (.dat (.lit _))⟩
def JL.passU {j d t:Nat}{u:Bool}(hg:o.guard=X (j,u))(hj:((ops[j]?).bind (·.dst))=X d)(hv:look Y.fr d=X (.lit undef))(ho:o.dst=X t)(ht:B_ t C):
  JL P C ops o Y (Y.put t (.lit undef)):=by
 intro a w h K Q O;simp only[Region.wanted,hg,h.unyielded hj hv];rw[if_neg (by simp)];obtain⟨Z,hr⟩:=h;rw[ho];exact O _ _ ⟨Z,hr.put (JT ht) (.dat (.lit _))⟩
def Ml (o:Oper)(j:Nat):Bool:=o.after.toList.any λe=>Region.binds .any e&&Nat.beq e.on j
def QiF (ops:Array Oper):Bool:=(List.range ops.size).all λi=>((ops[i]?).map λo=>o.after.toList.all λe=>!Region.binds .any e||Nat.ble (e.on+1) i).getD t_
def UZ : L_ Nat->Bool
 |[]=>t_|k::r=>!XK r k&&UZ r
structure Mid (C:Xs) (base:St) (fs:List DF) (listed:Array Bool) (Y:St):Prop where
 fr:∀t v,look base.fr t=X v->look Y.fr t=X v
 hp:∀o ob,look base.hp o=X ob->look Y.hp o=X ob
 did:∀(i:Nat) x,fs[i]? = X x->listed[i]? = X t_->QgY Y x
 not:∀(i:Nat) x,fs[i]? = X x->listed[i]? ≠ X t_->look Y.hp x.d=n_
def RW {O:Array Bool}{i:Nat}(hs:O.size=ops.size):i∈Region.ready .any ops O↔∃o,ops[i]? = X o/\O[i]? = X f_/\∀e∈o.after,Region.binds .any e=t_->O[e.on]? = X t_:=by
 unfold Region.ready;rw[AD,Ea];constructor
 ·rintro ⟨hi,h⟩;rw[QL]at h;obtain⟨h1,h2⟩:=h;have hi':i<O.size:=by omega
  refine⟨ops[i],GR hi,?_,?_⟩
  ·rw[GR hi'];simp[Array.getD,hi']at h1;rw[h1]
  intro e he hb;simp only[GR hi,Jh,GG,Array.all_eq_true_iff_forall_mem]at h2;have:=h2 e he;simp only[hb,DT,Bool.false_or]at this;by_cases hlt:e.on<O.size
  ·rw[GR hlt];simp[Array.getD,hlt]at this;rw[this]
  simp[Array.getD,hlt]at this
 rintro ⟨o,ho,hl,hd⟩;have hi:i<ops.size:=(Em.1 ho).1;refine⟨hi,?_⟩;rw[QL];have hi':i<O.size:=by omega
 rw[GR hi']at hl;refine⟨by simp[Array.getD,hi',Option.some.inj hl],?_⟩;simp only[ho,Jh,GG,Array.all_eq_true_iff_forall_mem];intro e he;cases hb:Region.binds .any e with
 |false=>rfl|true=>
  have:=hd e he hb;obtain⟨hlt,hv⟩:=Em.1 this;simp[Array.getD,hlt,hv]
def QiG (ops:Array Oper)(h:Array Bool):Prop:=∀(i:Nat) o,ops[i]? = X o->h[i]? = X t_->∀e∈o.after,Region.binds .any e=t_->h[e.on]? = X t_
def QiG.set {O:Array Bool}(hs:O.size=ops.size)(h:QiG ops O){i:Nat}(hi:i∈Region.ready .any ops O):QiG ops (O.setIfInBounds i t_):=by
 obtain⟨o,ho,hl,hd⟩:=(RW hs).1 hi;have keep:∀(k:Nat),O[k]? = X t_->(O.setIfInBounds i t_)[k]? = X t_:=by
  intro k hk;rw[QeW];split
  ·rename_i e;subst e;rw[if_pos (Em.1 hk).1]
  exact hk
 intro k o' ho' hk e he hb;by_cases e1:i=k
 ·subst e1;rw[ho]at ho';cases ho';exact keep _ (hd e he hb)
 rw[QrI e1]at hk;exact keep _ (h k o' ho' hk e he hb)
def QsY (hord:QiF ops=t_){O:Array Bool}(hs:O.size=ops.size){k:Nat}(hk:k<ops.size)(hl:O[k]? ≠ X t_)(hall:∀i,i<k->O[i]? = X t_):k∈Region.ready .any ops O:=by
 rw[RW hs];have hk':k<O.size:=by omega
 refine⟨ops[k],GR hk,?_,λe he hb=>?_⟩
 ·rw[GR hk']at hl ⊢;cases h:O[k]with|true=>rw[h]at hl;exact absurd rfl hl|false=>rfl
 rw[QiF,XM]at hord;have:=hord k (Ea.2 hk);simp only[GR hk,Jh,GG,XM]at this;have:=this e (QlS.2 he);simp only[hb,DT,Bool.false_or]at this;exact hall _ (JT this)
def QrN {O:Array Bool}(n:Nat)(h:∃i,i<n/\O[i]? ≠ X t_):∃k,k<n/\O[k]? ≠ X t_/\∀i,i<k->O[i]? = X t_:=by
 induction n with
 |zero=>obtain⟨i,hi,_⟩:=h;omega
 |succ n ih=>
  by_cases h':∃i,i<n/\O[i]? ≠ X t_
  ·obtain⟨k,h1,h2,h3⟩:=ih h';exact⟨k,by omega,h2,h3⟩
  obtain⟨i,hi,hn⟩:=h;have:i=n:=by
   rcases DX i n with h|h
   ·exact absurd ⟨i,h,hn⟩ h'
   omega
  subst this;refine⟨i,by omega,hn,λj hj=>?_⟩;by_cases hj2:O[j]? = X t_
  ·exact hj2
  exact absurd ⟨j,hj,hj2⟩ h'
def Mm {l:L_ Nat}{k:Nat}:XK l k=t_↔k∈l:=by
 induction l with
 |nil=>simp[XK]|cons x l O=>
  simp only[XK,WO,O,Yw];constructor
  ·rintro (h|h)
   ·exact .inl (Yr h).symm
   exact .inr h
  rintro (h|h)
  ·subst h;exact .inl (by simp)
  exact .inr h
def WD {l:L_ Nat}:UZ l=t_↔l.Nodup:=by
 induction l with
 |nil=>simp[UZ]|cons x l ih=>
  simp only[UZ,QL,ih,Uv];constructor
  ·rintro ⟨h,O⟩;refine⟨λhm=>?_,O⟩;rw[Mm.2 hm]at h;cases h
  rintro ⟨h,O⟩;refine⟨?_,O⟩;cases hb:XK l x with|false=>rfl|true=>exact absurd (Mm.1 hb) h
end
inductive Vw (hp:List (Nat×Ob)) (g sc:Bool) (bad:List Nat) (m:Nat->Nat->Prop):V->V->Prop where
 |dat (v:V):v.datA=t_->(sc=t_->v.scaA=t_)->Vw hp g sc bad m v v
 |nil (z:Nat):Vw hp g sc bad m (.lit (.slice n_ 0 0)) (.sl z [])
 |see (b n z:Nat) (rs us:List (List V)):g=t_->sc=f_->XK bad b=f_->look hp b=X (.arr z rs)->n<=rs.length->rs.take n=us->Vw hp g sc bad m (.own b n) (.sl z us)
 |own (a b n:Nat):m a b->Vw hp g sc bad m (.own a n) (.own b n)
 |loc (a b i d:Nat):m a b->Vw hp g sc bad m (.loc a i d) (.loc b i d)
 |map (a b:Nat):m a b->Vw hp g sc bad m (.map a) (.map b)
 |agg (cs us:List V):cs.length=us.length->(∀(j:Nat) c u,cs[j]? = X c->us[j]? = X u->Vw hp g sc bad m c u)->Vw hp g sc bad m (.agg cs) (.agg us)
 |tup (cs us:List V):cs.length=us.length->(∀(j:Nat) c u,cs[j]? = X c->us[j]? = X u->Vw hp g sc bad m c u)->Vw hp g sc bad m (.tup cs) (.tup us)
 |ifc (t:TypeId) (v u:V):Vw hp g sc bad m v u->Vw hp g sc bad m (.ifc t v) (.ifc t u)
 |clo (fn:Fn) (vs us cs ds:List V):vs.length=us.length->cs.length=ds.length->(∀(j:Nat) c u,vs[j]? = X c->us[j]? = X u->Vw hp g sc bad m c u)->
   (∀(j:Nat) c u,cs[j]? = X c->ds[j]? = X u->Vw hp g sc bad m c u)->Vw hp g sc bad m (.clo fn vs cs) (.clo fn us ds)
 |forget (v:V):Vw hp g sc bad m v .J
section
variable {hp:H_}{g sc:Bool}{bad:L_ Nat}{m:Nat->Nat->Prop}{Z ψ:Nat->O_ QV}{I J:Nat->Prop}{w w':World}
def Vw.sound (hm:∀a b B,m a b->Z a=X B->ψ b=X B)(hI:sc=f_->∀k,I k->J k/\w'.heap[k]? = w.heap[k]?)
  (hown:∀b z rs B,g=t_->XK bad b=f_->look hp b=X (.arr z rs)->Z b=X B->J B.b/\w'.heap[B.b]? = w.heap[B.b]? /\ Yc I w B z rs)
  {v u:V} (h:Vw hp g sc bad m v u):∀{x:Value},QR Z I w x v->QR ψ J w' x u:=by
 induction h with
 |dat v hv hs=>
  intro x O;cases sc with|true=>exact O.scaA (hs rfl)|false=>exact O.datA hv (hI rfl)
 |nil z=>intro x O;rw[O.lit_inv];exact .dat (.sl0 _ _ _)|see b n z rs us hg hsc hbad hb hle hu=>
  intro x O;subst hu;rcases O.own_inv with⟨rfl,rfl⟩|⟨B,hB,hcap,rfl⟩
  ·simp only[List.take_zero];exact .dat (.sl0 _ _ _)
  obtain⟨hJ,hw,rfl,hrl,hok,cs,E,h1,h2,h3⟩:=hown b z rs B hg hbad hb hB;refine .dat (.sl B.b B.off n B.cap B.z _ (λj=>cs.getD (B.off+j) undef) hJ (by simp;omega) hcap (λr hr'=>hok r (DV hr')) (λj hj=>?_) (λi r hi j v hj=>?_))
  ·have hle2:n*B.z<=B.cap*B.z:=Ys _ hcap;have:B.off+j<cs.size:=by omega
   simp[World.cell?,hw,h1,Array.getD,this]
  have hi':rs[i]? = X r:=by
   rw[YQ]at hi;by_cases hin:i<n
   ·rwa[if_pos hin]at hi
   rw[if_neg hin]at hi;simp at hi
  obtain⟨y,hy,hd⟩:=h3 i r hi' j v hj;have:cs.getD (B.off+(i*B.z+j)) undef=y:=by simp[Qb6,hy]
  rw[this];exact hd.mono (hI hsc)
 |own a b n hab=>
  intro x O;rcases O.own_inv with⟨rfl,rfl⟩|⟨B,hB,hcap,rfl⟩
  ·exact .own0 b
  exact .own b n B (hm a b B hab hB) hcap
 |loc a b i d hab=>intro x O;obtain⟨B,hB,rfl⟩:=O.loc_inv;exact .loc b i d B (hm a b B hab hB)
 |map a b hab=>intro x O;obtain⟨B,hB,rfl⟩:=O.map_inv;exact .map b B (hm a b B hab hB)
 |agg cs us hl _ ih=>
  intro x O;obtain⟨xs,rfl,hs,hc⟩:=O.agg_inv;refine .agg xs us (by omega) λj y u hy hu=>?_;have hj:j<cs.length:=by rw[<-hs];exact(Em.1 hy).1
  exact ih j cs[j] u (QI hj) hu (hc j y _ hy (QI hj))
 |tup cs us hl _ ih=>
  intro x O;obtain⟨xs,rfl,hs,hc⟩:=O.tup_inv;refine .tup xs us (by omega) λj y u hy hu=>?_;have hj:j<cs.length:=by rw[<-hs];exact(Em.1 hy).1
  exact ih j cs[j] u (QI hj) hu (hc j y _ hy (QI hj))
 |ifc t v u _ ih=>intro x O;obtain⟨y,rfl,hy⟩:=O.ifc_inv;exact .ifc t y u (ih hy)
 |clo fn vs us cs ds h1 h2 _ _ ih1 ih2=>
  intro x O;obtain⟨xs,ys,rfl,e1,e2,e3,e4⟩:=O.clo_inv;refine .clo fn xs ys us ds (by omega) (by omega) (λj y u hy hu=>?_) (λj y u hy hu=>?_)
  ·have hj:j<vs.length:=by rw[<-e1];exact(Em.1 hy).1
   exact ih1 j vs[j] u (QI hj) hu (e3 j y _ hy (QI hj))
  have hj:j<cs.length:=by rw[<-e2];exact(Em.1 hy).1
  exact ih2 j cs[j] u (QI hj) hu (e4 j y _ hy (QI hj))
 |forget v=>intro x O;exact .dat (.J x)
inductive ObW (hp:List (Nat×Ob)) (g sc:Bool) (bad:List Nat) (m:Nat->Nat->Prop):Ob->Ob->Prop where
 |var (cs us:List V):cs.length=us.length->(∀(j:Nat) c u,cs[j]? = X c->us[j]? = X u->Vw hp g sc bad m c u)->ObW hp g sc bad m (.var cs) (.var us)
 |arr (z:Nat) (rs:List (List V)):(sc=t_->∀r∈rs,∀v∈r,v.sca=t_)->ObW hp g sc bad m (.arr z rs) (.arr z rs)
 |map (l:List (V×V)):(sc=t_->∀p∈l,p.1.sca=t_/\p.2.sca=t_)->ObW hp g sc bad m (.map l) (.map l)
 |lp (l:Nat) (K:Ec) (cs us:List V) (q:Nat):cs.length=us.length->(∀(j:Nat) c u,cs[j]? = X c->us[j]? = X u->Vw hp g sc bad m c u)->ObW hp g sc bad m (.lp l K cs q) (.lp l K us q)
 |grp (z:Nat) (l:List (V×List (List V))) (lk:Option V):sc=f_->ObW hp g sc bad m (.grp z l lk) (.grp z l lk)
 |tbl (A:Nat->Nat) (z:Nat) (rs:List (List V)):sc=f_->ObW hp g sc bad m (.tbl A z rs) (.tbl A z rs)
def ObW.nil {ob ob':Ob}(h:ObW hp g sc bad m ob ob')(O:ob.Nil):ob'.Nil:=by cases h<;>first|exact O|exact O.elim
def ObW.sound (hm:∀a b B,m a b->Z a=X B->ψ b=X B)(hI:sc=f_->∀k,I k->J k/\w'.heap[k]? = w.heap[k]?)
  (hown:∀b z rs B,g=t_->XK bad b=f_->look hp b=X (.arr z rs)->Z b=X B->J B.b/\w'.heap[B.b]? = w.heap[B.b]? /\ Yc I w B z rs)
  {B:QV} (hB:∀k,B.has k->w'.heap[k]? = w.heap[k]?) {ob ob':Ob} (h:ObW hp g sc bad m ob ob') (hr:Jg Z I w B ob):Jg ψ J w' B ob':=by
 cases h with
 |var cs us hl hv=>
  obtain⟨xs,E,h1,h2,h0,h3⟩:=hr;refine⟨xs,E,(hB _ B.self).trans h1,by omega,h0,λj x u O hu=>?_⟩;have hj:j<cs.length:=by rw[<-h2];exact(Em.1 O).1
  exact(hv j cs[j] u (QI hj) hu).sound hm hI hown (h3 j x _ O (QI hj))
 |arr z rs hs=>
  cases sc with
  |false=>exact Yc.mono (hI rfl) (hB _ B.self) hr|true=>
   obtain⟨h1,h2,h3,cs,E,h4,h5,h6⟩:=hr;exact⟨h1,h2,h3,cs,E,(hB _ B.self).trans h4,h5,λi r hi j v hj=>let ⟨x,O,hd⟩:=h6 i r hi j v hj;⟨x,O,hd.sca (hs rfl r (XG hi) v (XG hj))⟩⟩
 |map l hs=>
  cases sc with
  |false=>exact Dz.mono (hI rfl) (hB _ B.self) hr|true=>
   obtain⟨es,clock,h1,h2,h3,h4,h5,h6⟩:=hr;exact⟨es,clock,(hB _ B.self).trans h1,h2,h3,h4,λx O=>let ⟨p,hp,a,b⟩:=h5 x O;⟨p,hp,a.sca (hs rfl p hp).1,b.sca (hs rfl p hp).2⟩,λp hp=>let ⟨x,O,a,b⟩:=h6 p hp;⟨x,O,a.sca (hs rfl p hp).1,b.sca (hs rfl p hp).2⟩⟩
 |lp l K cs us q hl hv=>
  obtain⟨tmps,D,rfl,h1,h2,h3,h4⟩:=hr;refine⟨tmps,D,rfl,h1,(hB _ B.self).trans h2,by omega,λj x u O hu=>?_⟩;have hj:j<cs.length:=by rw[<-h3];exact(Em.1 O).1
  exact(hv j cs[j] u (QI hj) hu).sound hm hI hown (h4 j x _ O (QI hj))
 |grp z l lk hs=>exact KP.mono (hI hs) hB hr|tbl A z rs hs=>exact En.mono (hI hs) hB hr
end
inductive Vws (hp:List (Nat×Ob)) (g sc:Bool) (bad:List Nat) (m:Nat->Nat->Prop):List V->List V->Prop where
 |nil:Vws hp g sc bad m [] []
 |cons {v u:V} {vs us:List V}:Vw hp g sc bad m v u->Vws hp g sc bad m vs us->Vws hp g sc bad m (v::vs) (u::us)
def Vws.get {hp:H_}{g sc:Bool}{bad:L_ Nat}{m:Nat->Nat->Prop}:∀{vs us:L_ V},Vws hp g sc bad m vs us->
  vs.length=us.length/\∀(j:Nat) v u,vs[j]? = X v->us[j]? = X u->Vw hp g sc bad m v u:=by
 intro vs us h
 induction h with
 |nil=>simp|cons h1 _ ih=>
  refine⟨by simp[ih.1],λj v u hv O=>?_⟩;cases j with|zero=>simp at hv O;subst hv;subst O;exact h1|succ j=>exact ih.2 j v u hv O
inductive OH (hp:List (Nat×Ob)) (g sc:Bool) (bad:List Nat) (m:Nat->Nat->Prop) (src:List (Nat×Ob)):List (Nat×Nat)->List (Nat×Ob)->Prop where
 |nil:OH hp g sc bad m src [] []
 |cons {d s:Nat} {ob ob':Ob} {ms:List (Nat×Nat)} {r:List (Nat×Ob)}:look src s=X ob->ObW hp g sc bad m ob ob'->OH hp g sc bad m src ms r->OH hp g sc bad m src ((d,s)::ms) ((d,ob')::r)
section
variable {hp src:H_}{g sc:Bool}{bad:L_ Nat}{m:Nat->Nat->Prop}
def OH.get {ms:L_ (Nat×Nat)}{hs:H_}(h:OH hp g sc bad m src ms hs):(∀d ob',look hs d=X ob'->∃s ob,look ms d=X s/\look src s=X ob/\ObW hp g sc bad m ob ob')/\
  ∀d s,look ms d=X s->∃ob',look hs d=X ob':=by
 induction h with
 |nil=>exact⟨λ_ _ h=>(by cases h),λ_ _ h=>(by cases h)⟩
 |@cons d s ob ob' ms r h1 h2 _ ih=>
  refine⟨λO o h=>?_,λO s' h=>?_⟩
  ·by_cases e:d=O
   ·subst e;rw[QB]at h ⊢;cases h;exact⟨s,ob,rfl,h1,h2⟩
   rw[Qz _ _ e]at h ⊢;exact ih.1 O o h
  by_cases e:d=O
  ·subst e;rw[QB]at h ⊢;exact⟨_,rfl⟩
  rw[Qz _ _ e]at h ⊢;exact ih.2 O s' h
end
def Uz (l:L_ (Nat×Nat)):L_ Nat:=l.map Prod.snd
def Ho : L_ (Nat×Nat)->Bool
 |[]=>t_|(_,s)::r=>!(XK (Uz r) s)&&Ho r
def QiH : ∀{l:L_ (Nat×Nat)} {d s:Nat},look l d=X s->XK (Uz l) s=t_:=by
 intro l
 induction l with
 |nil=>intro d s h;cases h
 |cons p l O=>
  intro d s h;obtain⟨k,u⟩:=p;by_cases e:k=d
  ·subst e;rw[QB]at h;cases h;simp[Uz,XK]
  rw[Qz _ _ e]at h;have:=O h;simp only[Uz,GC,XK,WO];exact .inr this
def Qlw : ∀{l:L_ (Nat×Nat)},Ho l=t_->∀{a b s:Nat},look l a=X s->look l b=X s->a=b:=by
 intro l
 induction l with
 |nil=>intro _ a b s h;cases h
 |cons p l ih=>
  intro hi a b s O h2;obtain⟨k,u⟩:=p;rw[Ho,QL]at hi;by_cases e1:k=a<;>by_cases e2:k=b
  ·rw[<-e1,<-e2]
  ·subst e1;rw[QB]at O;cases O;rw[Qz _ _ e2]at h2;rw[QiH h2]at hi;simp at hi
  ·subst e2;rw[QB]at h2;cases h2;rw[Qz _ _ e1]at O;rw[QiH O]at hi;simp at hi
  rw[Qz _ _ e1]at O;rw[Qz _ _ e2]at h2;exact ih hi.2 O h2
def QrO : ∀{l:L_ (Nat×Nat)} {s:Nat},XK (Uz l) s=t_->∃d,(d,s)∈l:=by
 intro l
 induction l with
 |nil=>intro s h;cases h
 |cons p l ih=>
  intro s h;simp only[Uz,GC,XK,WO]at h;rcases h with h|h
  ·exact⟨p.1,by rw[<-Yr h];exact Yd⟩
  obtain⟨d,O⟩:=ih h;exact⟨d,Yq _ O⟩
def St.killL (Y:St):L_ Nat->St
 |[]=>Y|b::r=>(Y.kill b).killL r
def Qe0 (Z:Nat->O_ QV):L_ Nat->Nat->O_ QV
 |[]=>Z|b::r=>Qe0 (Ga Z b) r
def UQ : ∀{O:L_ Nat} {Z:Nat->O_ QV} {k:Nat} {B:QV},Qe0 Z O k=X B->XK O k=f_/\Z k=X B:=by
 intro O
 induction O with
 |nil=>intro Z k B h;exact⟨rfl,h⟩|cons b O ih=>
  intro Z k B h;obtain⟨h1,h2⟩:=ih h;obtain⟨h3,h4⟩:=Kk h2;refine⟨?_,h4⟩;simp only[XK,DH];refine⟨?_,h1⟩;cases hb:Nat.beq b k with|false=>rfl|true=>exact absurd (Yr hb).symm h3
def QgZ : ∀{O:L_ Nat} {Z:Nat->O_ QV} {k:Nat},XK O k=f_->Qe0 Z O k=Z k:=by
 intro O
 induction O with
 |nil=>intro Z k h;rfl|cons b O ih=>
  intro Z k h;simp only[XK,DH]at h;rw[Qe0,ih h.2,Wj (λe=>by subst e;simp at h)]
def QqU : ∀(O:L_ Nat) (Y:St) (t:Nat) (v:V),look (Y.killL O).fr t=X v->∃v',look Y.fr t=X v'/\∀Z I w x,QR Z I w x v'->QR (Qe0 Z O) I w x v:=by
 intro O
 induction O with
 |nil=>intro Y t v h;exact⟨v,h,λ_ _ _ _ h=>h⟩|cons b O ih=>
  intro Y t v h;obtain⟨v1,h1,h2⟩:=ih (Y.kill b) t v h;obtain⟨v2,h3,rfl⟩:=IU _ _ _ h1;exact⟨v2,h3,λZ I w x hx=>h2 _ _ _ _ (hx.kill (λo B ho hB=>by rw[Wj ho];exact hB) λk hk=>⟨hk,rfl⟩)⟩
def QhL : ∀(O:L_ Nat) (Y:St) (o:Nat) (ob:Ob),look (Y.killL O).hp o=X ob->XK O o=f_/\∃ob',look Y.hp o=X ob'/\
  (∀Z I w B,Jg Z I w B ob'->Jg (Qe0 Z O) I w B ob)/\(ob'.Nil->ob.Nil):=by
 intro O
 induction O with
 |nil=>intro Y t v h;exact⟨rfl,v,h,λ_ _ _ _ h=>h,λh=>h⟩|cons b O ih=>
  intro Y t v h;obtain⟨h0,v1,h1,h2,h2'⟩:=ih (Y.kill b) t v h;obtain⟨hne,v2,h3,rfl⟩:=Ju _ _ _ h1;refine⟨?_,v2,h3,λZ I w B hB=>h2 _ _ _ _ (hB.kill (λo B ho hB=>by rw[Wj ho];exact hB) (λk hk=>⟨hk,rfl⟩) λ_ _=>rfl),λe=>h2' e.kill⟩;simp only[XK,DH];refine⟨?_,h0⟩;cases hb:Nat.beq b t with|false=>rfl|true=>exact absurd (Yr hb).symm hne
def Qna : ∀(O:L_ Nat) (Y:St) (o:Nat) (ob:Ob),XK O o=f_->look Y.hp o=X ob->∃ob',look (Y.killL O).hp o=X ob':=by
 intro O
 induction O with
 |nil=>intro Y o ob _ h;exact⟨ob,h⟩|cons b O ih=>
  intro Y o ob hm h;simp only[XK,DH]at hm;exact ih (Y.kill b) o _ hm.2 (Kj _ _ _ (λe=>by subst e;simp at hm) h)
def QrB : O_ Ob->Bool
 |some _=>t_|none=>f_
def Qql {x:O_ Ob}(h:QrB x=t_):∃ob,x=X ob:=by
 cases x with
 |none=>cases h
 |some ob=>exact⟨ob,rfl⟩
def QfF (x:O_ Nat)(n:Nat):Bool:=match x with|some k=>Nat.beq k n|none=>f_
def QbB {x:O_ Nat}{n:Nat}(h:QfF x n=t_):x=X n:=by
 cases x with
 |none=>cases h
 |some k=>rw[Yr h]
def DA (Y:St)(M N:L_ (Nat×Nat))(dead:L_ Nat)(outs:H_):Bool:=
 Ho M&&Ho N&&M.all (λp=>Nat.ble 635 p.1&&(XK dead p.2||(Nat.ble 639 p.1&&QfF (look N p.2) p.1&&QrB (look outs p.1)))) &&
 N.all (λp=>(XK dead p.1||XK (Uz M) p.1||(look Y.hp p.1).isNone)&&(Nat.ble 635 p.1||!(Nat.ble 635 p.2)||(Nat.ble 639 p.2&&QfF (look M p.2) p.1)||M.all (λq=>!(Nat.ble 635 q.2)||(Nat.ble 639 q.1&&QrB (look outs q.1)&&QfF (look N q.2) q.1))) &&
  (!(Nat.ble 639 p.1)||(Nat.ble 639 p.2&&QfF (look M p.2) p.1)))
structure Names (Y:St) (M N:List (Nat×Nat)) (dead:List Nat) (outs:List (Nat×Ob)):Prop where
 injM:∀{a b s:Nat},look M a=X s->look M b=X s->a=b
 injN:∀{a b s:Nat},look N a=X s->look N b=X s->a=b
 param:∀{c a:Nat},look M c=X a->635<=c
 keep:∀{c a:Nat},look M c=X a->XK dead a=t_\/(639<=c/\look N a=X c/\∃ob,look outs c=X ob)
 fresh:∀{a c:Nat},look N a=X c->XK dead a=t_\/(∃c',look M c'=X a)\/look Y.hp a=n_
 low:∀{a c:Nat},look N a=X c->a<635->c<635\/(639<=c/\look M c=X a)\/∀{c' a':Nat},look M c'=X a'->a'<635\/(639<=c'/\(∃ob,look outs c'=X ob)/\look N a'=X c')
 stay:∀{a c:Nat},look N a=X c->639<=a->639<=c/\look M c=X a
def Bj {a n:Nat}(h:(!(Nat.ble n a))=t_):a<n:=by
 rcases DX a n with O|O
 ·exact O
 rw[Zm O]at h;cases h
def JX : ∀{l:L_ (Nat×Nat)},Ho l=t_->∀{d s:Nat},(d,s)∈l->(l.map Prod.fst).Nodup->look l d=X s:=by
 intro l
 induction l with
 |nil=>intro _ d s h;cases h
 |cons p l ih=>
  intro hi d s h O;obtain⟨k,u⟩:=p;rw[Ho,QL]at hi;rw[GC,Uv]at O;rcases Yw.1 h with h|h
  ·cases h;exact QB _ _ _
  have hk:k≠d:=λe=>O.1 (by rw[e];exact Ye.2 ⟨(d,s),h,rfl⟩);rw[Qz _ _ hk];exact ih hi.2 h O.2
def Names.of {Y:St}{M N:L_ (Nat×Nat)}{dead:L_ Nat}{outs:H_}(h:DA Y M N dead outs=t_)(hnd:(M.map Prod.fst).Nodup):Names Y M N dead outs:=by
 simp only[DA,QL,XM]at h;obtain⟨⟨⟨h1,h2⟩,h3⟩,h4⟩:=h;have pM:∀{c a:Nat},look M c=X a->Nat.ble 635 c=t_/\(XK dead a=t_\/(Nat.ble 639 c=t_/\QfF (look N a) c=t_)/\QrB (look outs c)=t_):=λO=>by
  have:=h3 _ (Jv O);simpa only[WO,QL] using this
 have pN:=λ{a c:Nat} (O:look N a=X c)=>h4 _ (Jv O);refine⟨Qlw h1,Qlw h2,λO=>JT (pM O).1,λO=>?_,λO=>?_,λO hlt=>?_,λO hge=>?_⟩
 ·rcases(pM O).2 with h|⟨⟨a1,a2⟩,a3⟩
  ·exact .inl h
  exact .inr ⟨JT a1,QbB a2,Qql a3⟩
 ·have:=(pN O).1.1;simp only[WO]at this;rcases this with(h|h)|h
  ·exact .inl h
  ·obtain⟨c',hc'⟩:=QrO h;exact .inr (.inl ⟨c',JX h1 hc' hnd⟩)
  exact .inr (.inr (by simpa using h))
 ·have:=(pN O).1.2;simp only[WO]at this;rcases this with((h|h)|h)|h
  ·exact absurd (JT h) (by omega)
  ·exact .inl (Bj h)
  ·rw[QL]at h;exact .inr (.inl ⟨JT h.1,QbB h.2⟩)
  refine .inr (.inr λ{c' a'} hl'=>?_);rw[XM]at h;have:=h _ (Jv hl');rw[WO,QL,QL]at this;rcases this with h|⟨⟨h1,h2⟩,h3⟩
  ·exact .inl (Bj h)
  exact .inr ⟨JT h1,Qql h2,QbB h3⟩
 have:=(pN O).2;simp only[WO,QL]at this;rcases this with h|h
 ·exact absurd (Bj h) (by omega)
 exact⟨JT h.1,QbB h.2⟩
def Qkb (C:Xs)(Z:Nat->O_ QV)(w:World)(g:Bool)(bad:L_ Nat)(k:Nat):Prop:=Xc C Z w k\/(g=t_/\∃o B,Z o=X B/\B.has k/\XK bad o=f_)
section
variable {P:Program}{C:Xs}{Z:Nat->O_ QV}{Y:St}{a:Act}{w:World}{o:Oper}
def Ins.of_vals {g:Bool}{M:L_ (Nat×Nat)}{hsC:H_}{vs us:L_ V}{vals:L_ Value}(hr:RR C Z Y a w)(h1:vals.length=vs.length)
  (h2:∀(j:Nat) x v,vals[j]? = X x->vs[j]? = X v->QR Z (Xc C Z w) w x v)
  (hinj:∀{a b s:Nat},look M a=X s->look M b=X s->a=b) (hpar:∀{c a:Nat},look M c=X a->635<=c)
  (hv:Vws Y.hp g f_ (Uz M) (λa b=>look M b=X a) vs us) (hobs:OH Y.hp g f_ (Uz M) (λa b=>look M b=X a) Y.hp M hsC):
  Ins (Qkb C Z w g (Uz M)) (λc=>(look M c).bind Z) w vals.toArray us hsC:=by
 obtain⟨h3,h4⟩:=hv.get;obtain⟨h5,h6⟩:=hobs.get;have hm:∀a b B,look M b=X a->Z a=X B->(look M b).bind Z=X B:=λa b B h1 h2=>by rw[h1];exact h2
 have hI:f_=f_->∀k,Xc C Z w k->Qkb C Z w g (Uz M) k/\w.heap[k]? = w.heap[k]? := λ_ k hk=>⟨.inl hk,rfl⟩;have hown:∀b z rs B,g=t_->XK (Uz M) b=f_->look Y.hp b=X (.arr z rs)->Z b=X B->Qkb C Z w g (Uz M) B.b/\w.heap[B.b]? = w.heap[B.b]? /\ Yc (Xc C Z w) w B z rs:=
  λb z rs B hg O hb hB=>⟨.inr ⟨hg,b,B,hB,B.self,O⟩,rfl,hr.block hB hb⟩
 have inv:∀{c:Nat} {B:QV},(look M c).bind Z=X B->∃s,look M c=X s/\Z s=X B:=λh=>by
  obtain⟨s,h1,h2⟩:=Pg.1 h;exact⟨s,h1,h2⟩
 refine⟨λk hk=>?_,λc c' B B' k e1 e2 b1 b2=>?_,λc B e=>?_,by simp;omega,λj x u hx hu=>?_,λc ob e=>?_⟩
 ·rcases hk with hk|⟨_,o,B,hB,hk,_⟩
  ·exact hk.1
  exact(hr.lt o B k hB hk).1
 ·obtain⟨s,e3,e4⟩:=inv e1;obtain⟨s',e5,e6⟩:=inv e2;have:=hr.inj s s' B B' k e4 e6 b1 b2;subst this;exact hinj e3 e5
 ·obtain⟨s,e3,e4⟩:=inv e;refine⟨hpar e3,λk hk=>⟨(hr.lt s B k e4 hk).1,λhS=>?_⟩,h6 c s e3⟩;rcases hS with hS|⟨_,o,B',hB',hk',O⟩
  ·exact hS.2.2 s B e4 hk
  have:=hr.inj o s B' B k hB' e4 hk' hk;subst this;rw[QiH e3]at O;cases O
 ·simp only[Uu]at hx;have hj:j<vs.length:=by rw[<-h1];exact(QX.1 hx).1
  exact(h4 j vs[j] u (QI hj) hu).sound hm hI hown (h2 j x _ hx (QI hj))
 obtain⟨s,ob0,e1,e2,e3⟩:=h5 c ob e;rcases hr.heap s ob0 e2 with⟨B,hB,hrep⟩|⟨hn,hz⟩
 ·exact .inl ⟨B,by rw[e1];exact hB,e3.sound hm hI hown (λ_ _=>rfl) hrep⟩
 exact .inr ⟨by rw[e1];exact hn,e3.nil hz⟩
def OI (Z:Nat->O_ QV)(M N:L_ (Nat×Nat))(dead:L_ Nat)(φ':Nat->O_ QV):Nat->O_ QV:=λo=>match look N o with|some c=>φ' c|none=>Qe0 Z dead o
def St.after (Y:St)(dead:L_ Nat)(h:H_):St:=⟨(Y.killL dead).fr,h++(Y.killL dead).hp⟩
def UR {α:Type}:∀(l r:L_ (Nat×α)) (t:Nat),look (l++r) t=(look l t).orElse λ_=>look r t:=by
 intro l
 induction l with
 |nil=>intro r t;rfl|cons p l h=>
  intro r t;obtain⟨k,u⟩:=p;by_cases e:k=t
  ·subst e;rw[List.cons_append,QB,QB];rfl
  rw[List.cons_append,Qz _ _ e,Qz _ _ e];exact h r t
def RR.after {g:Bool}{M N:L_ (Nat×Nat)}{dead:L_ Nat}{outs hsN hs':H_}{φ':Nat->O_ QV}{w':World}{x:Value}{v:V}(hr:RR C Z Y a w)(hn:Names Y M N dead outs)
  (ho:Outs (Qkb C Z w g (Uz M)) (λc=>(look M c).bind Z) w φ' w' x v hs') (hso:∀c ob,look outs c=X ob->look hs' c=X ob)
  (hM:∀c s,look M c=X s->∃ob,look Y.hp s=X ob) (hback:OH [] f_ g [] (λc b=>look N b=X c) outs N hsN):RR C (OI Z M N dead φ') (Y.after dead hsN) a w'/\∀{r':V},Vw [] f_ g [] (λc b=>look N b=X c) v r'->
   QR (OI Z M N dead φ') (Xc C (OI Z M N dead φ') w') w' x r':=by
 have inv:∀{c:Nat} {B:QV},(look M c).bind Z=X B->∃s,look M c=X s/\Z s=X B:=λh=>by
  obtain⟨s,h1,h2⟩:=Pg.1 h;exact⟨s,h1,h2⟩
 have jN:∀{b c:Nat},look N b=X c->OI Z M N dead φ' b=φ' c:=λh=>by simp only[OI,h]
 have jO:∀{b:Nat},look N b=n_->OI Z M N dead φ' b=Qe0 Z dead b:=λh=>by simp only[OI,h]
 obtain⟨hb1,hb2⟩:=hback.get;have old:∀{c B k},φ' c=X B->B.has k->k<w.heap.size->∃c' s B',look M c'=X s/\Z s=X B'/\B'.has k:=λO hk hlt=>by
  obtain⟨c',B',h1,h2⟩:=(ho.lt _ _ _ O hk).2 hlt;obtain⟨s,h3,h4⟩:=inv h1;exact⟨c',s,B',h3,h4,h2⟩
 have keep:∀o B,Qe0 Z dead o=X B->OI Z M N dead φ' o=X B:=λo B O=>by
  cases hl:look N o with
  |none=>rw[jO hl];exact O|some c=>
   rw[jN hl];obtain⟨h1,h2⟩:=UQ O;rcases hn.fresh hl with h|⟨c',h⟩|h
   ·rw[h]at h1;cases h1
   ·rcases hn.keep h with h3|⟨h3,h4,ob5,h5⟩
    ·rw[h3]at h1;cases h1
    rw[hl]at h4;cases h4;exact ho.stay.2 c ob5 B h3 (hso _ _ h5) (by show(look M c).bind Z=X B;rw[h];exact h2)
   rw[hr.none_of_look h]at h2;cases h2
 have untouched:∀k,k<w.heap.size->(∀s B,Z s=X B->B.has k->∀c,look M c≠X s)->w'.heap[k]? = w.heap[k]? := λk hlt hne=>
  ho.kept k hlt λc B O hk=>by obtain⟨s,h1,h2⟩:=inv O;exact hne s B h2 hk c h1
 have hI:∀k,Xc C Z w k->Xc C (OI Z M N dead φ') w' k/\w'.heap[k]? = w.heap[k]? := λk hk=>by
  refine⟨⟨AE hk.1 ho.size,hk.2.1,λo B O hh=>?_⟩,untouched k hk.1 λs B O hh=>absurd hh (hk.2.2 s B O)⟩;cases hl:look N o with
  |none=>rw[jO hl]at O;exact hk.2.2 o B (UQ O).2 hh|some c=>
   rw[jN hl]at O;obtain⟨c',s,B',_,h2,h3⟩:=old O hh hk.1;exact hk.2.2 s B' h2 h3
 have hA:g=f_->∀k,Aft (Qkb C Z w g (Uz M)) φ' w w' k->Xc C (OI Z M N dead φ') w' k/\w'.heap[k]? = w'.heap[k]? := λhg k hk=>by
  obtain⟨h1,h2,h3⟩:=hk;by_cases hlt:k<w.heap.size
  ·rcases h2 hlt with h|⟨h,_⟩
   ·exact⟨(hI k h).1,rfl⟩
   rw[hg]at h;cases h
  refine⟨⟨h1,λh=>absurd hr.size (by omega),λo B O hh=>?_⟩,rfl⟩;cases hl:look N o with|none=>rw[jO hl]at O;have:=(hr.lt o B k (UQ O).2 hh).1;omega|some c=>rw[jN hl]at O;exact h3 c B O hh
 have hmB:∀c b B,look N b=X c->φ' c=X B->OI Z M N dead φ' b=X B:=λc b B h1 h2=>by rw[jN h1];exact h2
 have hownB:∀b z rs B,f_=t_->XK [] b=f_->look ([]:H_) b=X (.arr z rs)->φ' b=X B->
   Xc C (OI Z M N dead φ') w' B.b/\w'.heap[B.b]? = w'.heap[B.b]? /\ Yc (Aft (Qkb C Z w g (Uz M)) φ' w w') w' B z rs:=λ_ _ _ _ h=>by cases h
 have stay2:∀o ob B,639<=o->look (Y.after dead hsN).hp o=X ob->C.φ0 o=X B->OI Z M N dead φ' o=X B:=λo ob B hge hob O=>by
  rw[St.after,UR]at hob;cases hx:look hsN o with
  |some y=>
   obtain⟨c,ob1,h1,h2,h3⟩:=hb1 o _ hx;obtain⟨h4,h5⟩:=hn.stay h1 hge;obtain⟨ob2,h6⟩:=hM _ _ h5;have h7:=hr.stay.2 o ob2 B hge h6 O;rw[jN h1];exact ho.stay.2 c ob1 B h4 (hso _ _ h2) (by show(look M c).bind Z=X B;rw[h5];exact h7)
  |none=>
   rw[hx]at hob;have l:look N o=n_:=by
    cases l:look N o with|none=>rfl|some c=>obtain⟨ob',h'⟩:=hb2 o c l;rw[hx]at h';cases h'
   obtain⟨h1,ob',h2,_,_⟩:=QhL dead Y o ob hob;rw[jO l,QgZ h1];exact hr.stay.2 o ob' B hge h2 O
 refine⟨⟨ho.os.trans hr.os,ho.tape.trans hr.tape,ho.output.trans hr.output,Yx hr.size ho.size,λk h1 h2=>?_,λo1 o2 B1 B2 k e1 e2 b1 b2=>?_,λo B O=>?_,λo B k O hk=>?_,λo B k O hk hlt=>?_,
  ⟨λo B hge O=>?_,stay2⟩,hr.tmps,hr.defers.mono hI,λt u hu=>?_,λo ob hob=>?_⟩,λhv=>hv.sound hmB hA hownB ho.rep⟩
 ·rw[untouched k (AE h1 hr.size) λs B O hh=>absurd ((hr.lt s B k O hh).2 h1) h2];exact hr.kept k h1 h2
 ·cases l1:look N o1 with
  |some c1=>
   rw[jN l1]at e1;cases l2:look N o2 with
   |some c2=>
    rw[jN l2]at e2;have:=ho.inj c1 c2 B1 B2 k e1 e2 b1 b2;subst this;exact hn.injN l1 l2
   |none=>
    rw[jO l2]at e2;obtain⟨g1,g2⟩:=UQ e2;obtain⟨c',s,B',h1,h2,h3⟩:=old e1 b1 (hr.lt o2 B2 k g2 b2).1;have:=hr.inj s o2 B' B2 k h2 g2 h3 b2;subst this;rcases hn.keep h1 with h|⟨_,h,_⟩
    ·rw[h]at g1;cases g1
    rw[h]at l2;cases l2
  |none=>
   rw[jO l1]at e1;obtain⟨g1,g2⟩:=UQ e1;cases l2:look N o2 with
   |some c2=>
    rw[jN l2]at e2;obtain⟨c',s,B',h1,h2,h3⟩:=old e2 b2 (hr.lt o1 B1 k g2 b1).1;have:=hr.inj s o1 B' B1 k h2 g2 h3 b1;subst this;rcases hn.keep h1 with h|⟨_,h,_⟩
    ·rw[h]at g1;cases g1
    rw[h]at l1;cases l1
   |none=>
    rw[jO l2]at e2;exact hr.inj o1 o2 B1 B2 k g2 (UQ e2).2 b1 b2
 ·cases l:look N o with
  |some c=>
   obtain⟨ob,hob⟩:=hb2 o c l;exact⟨ob,by rw[St.after,UR,hob];rfl⟩
  |none=>
   rw[jO l]at O;obtain⟨h1,h2⟩:=UQ O;obtain⟨ob,hob⟩:=hr.dom o B h2;obtain⟨ob',hob'⟩:=Qna dead Y o ob h1 hob;rw[St.after,UR];cases hx:look hsN o with|some y=>exact⟨y,rfl⟩|none=>exact⟨ob',hob'⟩
 ·cases l:look N o with
  |some c=>
   rw[jN l]at O;refine⟨(ho.lt c B k O hk).1,λhlt=>?_⟩;obtain⟨c',s,B',h1,h2,h3⟩:=old O hk (AE hlt hr.size);exact(hr.lt s B' k h2 h3).2 hlt
  |none=>
   rw[jO l]at O;have:=hr.lt o B k (UQ O).2 hk;exact⟨AE this.1 ho.size,this.2⟩
 ·cases l:look N o with
  |some c=>
   rw[jN l]at O;rcases DX k w.heap.size with hlt'|hge
   ·obtain⟨c',s,B',h1,h2,h3⟩:=old O hk hlt';rcases hn.low l hlt with h|⟨hc0,hMc⟩|h
    ·have:=ho.new c B k O hk h;omega
    ·obtain⟨s,hs,h4⟩:=inv (ho.stay.1 c B hc0 O);rw[hMc]at hs;cases hs;exact hr.new o B k h4 hk hlt
    rcases h h1 with h|⟨hc',⟨ob',hob'⟩,hN'⟩
    ·exact hr.new s B' k h2 h3 h
    have h4:=ho.stay.2 c' ob' B' hc' (hso _ _ hob') (by show(look M c').bind Z=X B';rw[h1];exact h2);have h5:=ho.inj c c' B B' k O h4 hk h3;subst h5;have:=hn.injN l hN';subst this;exact hr.new _ B' k h2 h3 hlt
   exact Yx hr.size hge
  |none=>rw[jO l]at O;exact hr.new o B k (UQ O).2 hk hlt
 ·cases l:look N o with
  |some c=>
   rw[jN l]at O;obtain⟨h1,h2⟩:=hn.stay l hge;obtain⟨s,h3,h4⟩:=inv (ho.stay.1 c B h1 O);rw[h2]at h3;cases h3;exact hr.stay.1 o B hge h4
  |none=>rw[jO l]at O;exact hr.stay.1 o B hge (UQ O).2
 ·obtain⟨u',hu',hk⟩:=QqU dead Y t u hu;obtain⟨y,hy,hrep⟩:=hr.frame t u' hu';exact⟨y,hy,(hk _ _ _ _ hrep).mono keep hI⟩
 rw[St.after,UR]at hob;cases hx:look hsN o with
 |some y=>
  rw[hx]at hob;cases hob;obtain⟨c,ob1,h1,h2,h3⟩:=hb1 o _ hx;rcases ho.heap c ob1 (hso _ _ h2)with⟨B,O,hrep⟩|⟨hnone,hz⟩
  ·exact .inl ⟨B,hmB c o B h1 O,h3.sound hmB hA hownB (λ_ _=>rfl) hrep⟩
  exact .inr ⟨by rw[jN h1];exact hnone,h3.nil hz⟩
 |none=>
  rw[hx]at hob;have l:look N o=n_:=by
   cases l:look N o with|none=>rfl|some c=>obtain⟨ob',h'⟩:=hb2 o c l;rw[hx]at h';cases h'
  obtain⟨h1,ob',h2,h3,h4⟩:=QhL dead Y o ob hob;rcases hr.heap o ob' h2 with⟨B,O,hrep⟩|⟨hnone,hz⟩
  ·have hBd:Qe0 Z dead o=X B:=by rw[QgZ h1];exact O
   refine .inl ⟨B,keep o B hBd,(h3 _ _ _ _ hrep).mono keep hI λk hk=>untouched k (hr.lt o B k O hk).1 λs B' hB' hk' c hc=>?_⟩;have:=hr.inj s o B' B k hB' O hk' hk;subst this;rcases hn.keep hc with h|⟨_,h,_⟩
   ·rw[h]at h1;cases h1
   rw[h]at l;cases l
  exact .inr ⟨by rw[jO l,QgZ h1];exact hnone,h4 hz⟩
end
section
variable {P:Program}{C:Xs}{Y:St}{o:Oper}
def Jo.fn {f:FuncId}{h:Array Operand}{ts:Array TypeId}{vs:L_ V}(ho:o.op=.call { callee:=.value (.func f),args:=h,argTypes:=ts })(he:QeZ P f=t_)(ha:Y.opsV h.toList=X vs):
  Jo P C o Y f vs:=by
 intro Z a w hr;obtain⟨h1,h2⟩:=hr.opsV _ _ ha;refine⟨h.toList.map a.eval,?_,by simpa using h1,λj x v O hv=>?_⟩
 ·have e2:h.map a.eval=(h.toList.map a.eval).toArray:=by apply Array.ext';simp
  simp only[execOp,ho,resolve,Xh,show a.eval (.func f)=.func (.func f) #[] #[]from rfl,Deferred.ofValue,Xq,Xp,invoke,Array.empty_append,Array.append_empty,e2];exact Mj (P:=P) (w:=w) (f:=f) (args:=(h.toList.map a.eval).toArray) he
 simp only[Ya,Yf]at O;obtain⟨y,hy,rfl⟩:=O;exact h2 j y v hy hv
def Jo.clo {f:FuncId}{x:Operand}{h:Array Operand}{ts:Array TypeId}{vs fs cs:L_ V}(ho:o.op=.call { callee:=.value x,args:=h,argTypes:=ts })(hx:Y.opd x=X (.clo (.func f) fs cs))
  (he:QeZ P f=t_) (ha:Y.opsV h.toList=X vs):Jo P C o Y f (fs++(vs++cs)):=by
 intro Z a w hr;obtain⟨h1,h2⟩:=hr.opsV _ _ ha;obtain⟨xs,ys,hev,e1,e2,e3,e4⟩:=(hr.opd hx).clo_inv;have h1':h.size=vs.length:=by simpa using h1
 refine⟨xs.toList++(h.toList.map a.eval++ys.toList),?_,by simp;omega,λj y v O hv=>?_⟩
 ·have e5:(xs++h.map a.eval)++ys=(xs.toList++(h.toList.map a.eval++ys.toList)).toArray:=by apply Array.ext';simp
  simp only[execOp,ho,resolve,Xh,hev,Deferred.ofValue,Xq,Xp,invoke,e5];exact Mj (P:=P) (w:=w) (f:=f) (args:=_) he
 by_cases c1:j<fs.length
 ·rw[Yp (by simpa using (by omega:j<xs.size))]at O;rw[Yp c1]at hv;exact e3 j y v (by simpa using O) hv
 rw[YJ (by simp;omega)]at O;rw[YJ (by omega)]at hv;simp only[Array.length_toList]at O;rw[e1]at O;by_cases c2:j-fs.length<vs.length
 ·rw[Yp (by simp;simp at h1;omega)]at O;rw[Yp c2]at hv;simp only[Ya,Yf]at O;obtain⟨z,hz,rfl⟩:=O;exact h2 _ z v hz hv
 have hl:(h.toList.map a.eval).length=vs.length:=by simpa using h1
 rw[YJ (by omega),hl]at O;rw[YJ (by omega)]at hv;exact e4 _ y v (by simpa using O) hv
def AG (P:Program)(t:TypeId)(name:String):O_ (FuncId×Bool):=match P.info? t with
 |some i=>match i.methods.find? (·.name==name)with|some m=>bif m.path.isEmpty then m.func else n_|none=>n_
 |none=>n_
def QlT (P:Program)(t:TypeId):Bool:=match P.underlying t with|some (.pointer _)=>t_|_=>f_
def Qcc (P:Program)(t:TypeId):Bool:=match P.underlying t with|some (.pointer _)=>f_|some _=>t_|none=>f_
def Qg0 {t:TypeId}{name:String}{f:FuncId}{p:Bool}{n:Nat}{v r:Value}{w:World}(h:AG P t name=X (f,p))
  (hr:(receiverAt t (.val v) p (some ((name.splitOn ".").getLastD name))).run P w=.ok r w):(method (n+1) t v name).run P w=.ok (f,r) w:=by
 unfold AG at h;split at h
 ·rename_i i hi;split at h
  ·rename_i m hm;cases hp:m.path.isEmpty with
   |false=>rw[hp]at h;cases h
   |true=>
    rw[hp]at h;simp only[Xi]at h;have hpl:m.path.toList=[]:=by simpa using hp
    simp only[method,typeInfo,Xh,Xq,run_program,Xp,hi,hm,hpl,follow,h,hp,if_true,hr]
  cases h
 cases h
def Qo6 {t:TypeId}{v:Value}{wr:O_ String}{w:World}(h:QlT P t=t_):(receiverAt t (.val v) t_ wr).run P w=.ok v w:=by
 unfold QlT at h;split at h
 ·rename_i e O;simp[receiverAt,run_underlying O,Place.get]
 cases h
def Qo7 {t:TypeId}{v:Value}{wr:O_ String}{w:World}(h:Qcc P t=t_):(receiverAt t (.val v) f_ wr).run P w=.ok v w:=by
 unfold Qcc at h;split at h
 ·cases h
 ·rename_i d O he;cases d<;>first|exact(O _ rfl).elim|simp[receiverAt,run_underlying he,Place.get]
 cases h
def Qec (P:Program)(t e:TypeId):Bool:=match P.underlying t with|some (.pointer e')=>Nat.beq e' e|_=>f_
def Qnb {t e:TypeId}{p:Addr}{m:String}{w:World}{y:Value}(h:Qec P t e=t_)(hl:(loadVar e p).run P w=.ok y w):(receiverAt t (.val (.pointer (X p))) f_ (X m)).run P w=.ok y w:=by
 unfold Qec at h;split at h
 ·rename_i e' he;have:=Yr h;subst this;have hs:(Builtin.ssaWrapNilChk_ #[t] t #[.pointer (some p),strVal "",strVal m]).run P w=.ok (.pointer (some p)) w:=rfl
  simp[receiverAt,run_underlying he,Place.get,hs,asAddr,hl]
 cases h
def Jo.meth {f:FuncId}{x:Operand}{name:String}{O:Array Operand}{ts:Array TypeId}{t:TypeId}{vs:L_ V}{u r:V}(ho:o.op=.call { callee:=.invoke x name,args:=O,argTypes:=ts })
  (hx:Y.opd x=X (.ifc t u)) (hm:(AG P t name=X (f,t_)/\QlT P t=t_)\/(AG P t name=X (f,f_)/\Qcc P t=t_)) (he:QeZ P f=t_) (ha:Y.opsV O.toList=X vs):
  Jo P C o Y f (u::vs):=by
 intro Z a w hr;obtain⟨h1,h2⟩:=hr.opsV _ _ ha;obtain⟨y,hev,hy⟩:=(hr.opd hx).ifc_inv;refine⟨y::O.toList.map a.eval,?_,by simpa using h1,λj z v hz hv=>?_⟩
 ·have hmeth:(method (P.types.size+Made.depth) t y name).run P w=.ok (f,y) w:=by
   have hd:P.types.size+Made.depth=(P.types.size+(Made.depth-1))+1:=by have:Made.depth=(Made.depth-1)+1:=rfl;omega
   rw[hd];rcases hm with⟨h,hp⟩|⟨h,hp⟩
   ·exact Qg0 h (Qo6 hp)
   exact Qg0 h (Qo7 hp)
  have e2:#[y]++O.map a.eval=(y::O.toList.map a.eval).toArray:=by apply Array.ext';simp
  have e3:(#[Value.iface t y]++O.map a.eval)[0]? = X (.iface t y):=by rw[Qo2 (by simp)];rfl
  have e4:(#[Value.iface t y]++O.map a.eval).extract 1 (#[Value.iface t y]++O.map a.eval).size=O.map a.eval:=by
   apply Array.ext';simp[DW]
  simp only[execOp,ho,resolve,Xh,hev,Xq,Xp,invoke,e3,e4,callMethod,run_program,hmeth,e2];exact Mj (P:=P) (w:=w) (f:=f) (args:=_) he
 cases j with
 |zero=>simp at hz hv;subst hz;subst hv;exact hy|succ j=>
  simp only[QgO,Ya,Yf]at hz hv;obtain⟨y',hy',rfl⟩:=hz;exact h2 j y' v hy' hv
def Jo.methV {f:FuncId}{x:Operand}{name:String}{h:Array Operand}{ts:Array TypeId}{t e:TypeId}{vs cs:L_ V}{b off:Nat}{r:V}(ho:o.op=.call { callee:=.invoke x name,args:=h,argTypes:=ts })
  (hx:Y.opd x=X (.ifc t (.loc b 0 off))) (hm:AG P t name=X (f,f_)) (hp:Qec P t e=t_) (hg:Ux P e=X f_) (hb:look Y.hp b=X (.var cs)) (hr0:cs[off]? = X r) (he:QeZ P f=t_)
  (ha:Y.opsV h.toList=X vs):Jo P C o Y f (r::vs):=by
 intro Z a w hr;obtain⟨h1,h2⟩:=hr.opsV _ _ ha;obtain⟨y,hev,hy⟩:=(hr.opd hx).ifc_inv;obtain⟨B,hB,rfl⟩:=hy.loc_inv;obtain⟨xs,E,e1,e2,e0,e3⟩:=hr.block hB hb;have hlt:off<xs.size:=by rw[e2];exact(QX.1 hr0).1
 have O:(loadVar e ⟨B.b,B.off+(0*B.z+off),n_⟩).run P w=.ok xs[off] w:=by
  have:=Ph (P:=P) (T:=e) (w:=w) (p:=⟨B.b,B.off+(0*B.z+off),n_⟩) (x:=xs[off]) hg (by simp[World.cell?,e1,hlt,e0]);simpa only[Instr.loadAt,Instr.sureAddr,Xh,Xq,Xp] using this
 refine⟨xs[off]::h.toList.map a.eval,?_,by simpa using h1,λj z v hz hv=>?_⟩
 ·have hmeth:(method (P.types.size+Made.depth) t (.pointer (X ⟨B.b,B.off+(0*B.z+off),n_⟩)) name).run P w=.ok (f,xs[off]) w:=by
   have hd:P.types.size+Made.depth=(P.types.size+(Made.depth-1))+1:=by have:Made.depth=(Made.depth-1)+1:=rfl;omega
   rw[hd];exact Qg0 hm (Qnb hp O)
  have e2:#[xs[off]]++h.map a.eval=(xs[off]::h.toList.map a.eval).toArray:=by apply Array.ext';simp
  have e3:(#[Value.iface t (.pointer (X ⟨B.b,B.off+(0*B.z+off),n_⟩))]++h.map a.eval)[0]? = X (.iface t (.pointer (X ⟨B.b,B.off+(0*B.z+off),n_⟩))):=by rw[Qo2 (by simp)];rfl
  have e4:(#[Value.iface t (.pointer (X ⟨B.b,B.off+(0*B.z+off),n_⟩))]++h.map a.eval).extract 1 (#[Value.iface t (.pointer (X ⟨B.b,B.off+(0*B.z+off),n_⟩))]++h.map a.eval).size=h.map a.eval:=by
   apply Array.ext';simp[DW]
  simp only[execOp,ho,resolve,Xh,hev,Xq,Xp,invoke,e3,e4,callMethod,run_program,hmeth,e2];exact Mj (P:=P) (w:=w) (f:=f) (args:=_) he
 cases j with
 |zero=>simp at hz hv;subst hz;subst hv;exact e3 off _ _ (GR hlt) hr0|succ j=>
  simp only[QgO,Ya,Yf]at hz hv;obtain⟨y',hy',rfl⟩:=hz;exact h2 j y' v hy' hv
def Gives (r:V)(outs:H_)(v:V)(h:H_):Prop:=v=r/\∀c ob,look outs c=X ob->look h c=X ob
def Stp.callM {f:FuncId}{d:Nat}{g:Bool}{M N:L_ (Nat×Nat)}{dead:L_ Nat}{hsC outs hsN:H_}{vs us:L_ V}{r r':V}(hE:Jo P C o Y f vs)(hd:o.dst=X d)(hn:B_ d C)(hpg:C.pg P)
  (hnm:DA Y M N dead outs=t_) (hnd:(M.map Prod.fst).Nodup)
  (hv:Vws Y.hp g f_ (Uz M) (λa b=>look M b=X a) vs us) (O:OH Y.hp g f_ (Uz M) (λa b=>look M b=X a) Y.hp M hsC)
  (hc:QQ P f us hsC (Gives r outs)) (hback:OH [] f_ g [] (λc b=>look N b=X c) outs N hsN) (hr':Vw [] f_ g [] (λc b=>look N b=X c) r r'):
  Stp P C o Y ((Y.after dead hsN).put d r'):=by
 intro a w ⟨Z,hr⟩ next Q hnext;have hN:=Names.of hnm hnd;refine⟨λ_ _=>trivial,?_⟩;obtain⟨vals,hex,h1,h2⟩:=hE Z a w hr;rw[Qj8 hex,Oper.uponIn_enter];refine⟨(λh=>by cases h),QiA ((hc _ _ w _ (Ins.of_vals hr h1 h2 hN.injM hN.param hv O) ((hr.glob hpg).mono λ_ h=>.inl h)).mono ?_)⟩;rintro e w' ⟨x,v,hs',φ',rfl,⟨rfl,hso⟩,hout⟩;obtain⟨h3,h4⟩:=hr.after hN hout hso (λc s h=>by
  obtain⟨ob',e1⟩:=O.get.2 c s h;obtain⟨s',ob,e2,e3,_⟩:=O.get.1 c ob' e1;rw[h]at e2;cases e2;exact⟨ob,e3⟩) hback
 refine hnext _ _ ⟨OI Z M N dead φ',?_⟩;rw[hd];exact h3.put (Xv hn) (h4 hr')
end
end Go.Vm
