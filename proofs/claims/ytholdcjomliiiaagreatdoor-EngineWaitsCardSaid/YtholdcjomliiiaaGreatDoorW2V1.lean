/- A part of the proof. -/
import Derived.WalkKit
import Derived.ProofKit
import Derived.MapKept
import Derived.Maps.RangeRun
import Derived.RangeFuncRecord
import Derived.RangeFuncLeaves
import Derived.LoopNIn
import Derived.OrdersIn
import Derived.TacticsIn
import Derived.Lib.Space
import Derived.Orders
set_option linter.all false
namespace Go.Vm
open Go Go.RowKit
open Option renaming some→X,none→n_
open Bool renaming true→t_,false→f_
abbrev L_:=@List
abbrev O_:=@Option
abbrev Quu:=@Array.eq_empty_of_size_eq_zero
abbrev QfA:=@Array.getD_eq_getD_getElem?
abbrev QlB:=@Array.getElem?_append_left
abbrev AV:=@Array.getElem?_eq_getElem
abbrev Cg:=@Array.getElem?_eq_some_iff
abbrev Qsj:=@Array.getElem?_modify
abbrev QfB:=@Array.getElem?_setIfInBounds
abbrev Qsk:=@Array.getElem?_setIfInBounds_ne
abbrev QfC:=@Array.getElem?_toList
abbrev QlC:=@Array.map_empty
abbrev QgW:=@Array.mem_toList_iff
abbrev QgX:=@Array.range_zero'
abbrev QeB:=@Array.toArray_toList
abbrev Vj:=@Bool.and_eq_false_iff
abbrev QN:=@Bool.and_eq_true
abbrev QaO:=@Bool.and_true
abbrev HN:=@Bool.eq_iff_iff
abbrev QaP:=@Bool.false_and
abbrev Qco:=@Bool.false_or
abbrev Qcp:=@Bool.not_eq_false
abbrev CR:=@Bool.not_eq_false'
abbrev Lz:=@Bool.not_eq_true
abbrev Ga:=@Bool.not_eq_true'
abbrev Qcq:=@Bool.not_false
abbrev Jq:=@Bool.not_true
abbrev Ku:=@Bool.or_eq_false_iff
abbrev KG:=@Bool.or_eq_true
abbrev Vk:=@Bool.or_false
abbrev QaQ:=@Bool.true_and
abbrev XM:=@Int.toNat_natCast
abbrev QaR:=@List.all_cons
abbrev XS:=@List.all_eq_true
abbrev Aw:=@List.any_eq_true
abbrev Kh:=@List.append_assoc
abbrev Qcr:=@List.append_nil
abbrev QgY:=@List.cons_append
abbrev NE:=@List.drop_eq_getElem_cons
abbrev Qj7:=@List.drop_of_length_le
abbrev QnG:=@List.eq_nil_of_length_eq_zero
abbrev QaS:=@List.eq_of_mem_replicate
abbrev QaT:=@List.filter_append
abbrev Ax:=@List.filter_cons
abbrev Qj8:=@List.flatMap_append
abbrev Ay:=@List.flatMap_cons
abbrev JA:=@List.forall_mem_cons
abbrev Sy:=@List.getD_eq_getElem?_getD
abbrev Jh:=@List.getElem?_append_left
abbrev Kc:=@List.getElem?_append_right
abbrev Qj9:=@List.getElem?_cons_succ
abbrev UQ:=@List.getElem?_drop
abbrev Qv:=@List.getElem?_eq_getElem
abbrev SA:=@List.getElem?_eq_none
abbrev Xf:=@List.getElem?_eq_some_iff
abbrev Yj:=@List.getElem?_map
abbrev Vl:=@List.getElem?_set_ne
abbrev Vn:=@List.getElem?_set_self
abbrev Kd:=@List.getElem?_take
abbrev CS:=@List.getElem?_toArray
abbrev Xc:=@List.getElem_mem
abbrev Qcs:=@List.getElem_range
abbrev Qct:=@List.getElem_take
abbrev YZ:=@List.length_append
abbrev WI:=@List.length_cons
abbrev NF:=@List.length_drop
abbrev HO:=@List.length_eq_zero_iff
abbrev Vo:=@List.length_filter_le
abbrev Dx:=@List.length_map
abbrev NG:=@List.length_nil
abbrev QeC:=@List.length_range
abbrev Qcu:=@List.length_replicate
abbrev QgZ:=@List.length_set
abbrev FO:=@List.length_singleton
abbrev Kv:=@List.length_take
abbrev QaU:=@List.map_append
abbrev QaV:=@List.map_congr_left
abbrev GC:=@List.map_cons
abbrev QaW:=@List.map_map
abbrev YT:=@List.mem_append
abbrev SB:=@List.mem_append_left
abbrev Qg0:=@List.mem_append_right
abbrev XP:=@List.mem_cons
abbrev Ys:=@List.mem_cons_of_mem
abbrev Yc:=@List.mem_cons_self
abbrev FP:=@List.mem_filter
abbrev Ej:=@List.mem_iff_getElem
abbrev NH:=@List.mem_iff_getElem?
abbrev Yt:=@List.mem_map
abbrev XB:=@List.mem_of_getElem?
abbrev QaX:=@List.mem_of_mem_drop
abbrev FQ:=@List.mem_of_mem_take
abbrev Qg1:=@List.mem_or_eq_of_mem_set
abbrev CU:=@List.mem_range
abbrev LA:=@List.mem_singleton
abbrev FR:=@List.nil_append
abbrev NI:=@List.nodup_cons
abbrev Qg2:=@List.pairwise_append
abbrev Bu:=@List.pairwise_cons
abbrev QeD:=@List.pairwise_iff_getElem
abbrev QaY:=@List.pairwise_map
abbrev Qka:=@List.pairwise_singleton
abbrev Qbi:=@List.size_toArray
abbrev JY:=@List.take_add_one
abbrev QiN:=@List.take_append_drop
abbrev Qgh:=@List.take_append_of_le_length
abbrev Uf:=@List.take_length
abbrev YV:=@List.take_of_length_le
abbrev OA:=@Nat.add_assoc
abbrev Je:=@Nat.add_mul
abbrev My:=@Nat.add_zero
abbrev Vp:=@Nat.ble_eq_true_of_le
abbrev Yp:=@Nat.eq_of_beq_eq_true
abbrev JC:=@Nat.le_of_ble_eq_true
abbrev Ih:=@Nat.le_of_eq
abbrev Yk:=@Nat.le_refl
abbrev FT:=@Nat.le_succ
abbrev Yq:=@Nat.le_trans
abbrev Ez:=@Nat.lt_of_lt_of_le
abbrev DP:=@Nat.lt_or_ge
abbrev OB:=@Nat.min_eq_left
abbrev Jr:=@Nat.mul_le_mul_right
abbrev OC:=@Nat.one_mul
abbrev Gp:=@Nat.zero_add
abbrev Ii:=@Nat.zero_le
abbrev Ij:=@Nat.zero_mul
abbrev Vq:=@Option.bind_eq_some_iff
abbrev Qa:=@Option.bind_some
abbrev QcZ:=@Option.getD_some
abbrev Yo:=@Option.map_eq_some_iff
abbrev Qbj:=@Option.map_none
abbrev Gq:=@Option.map_some
abbrev Xo:=@Result.andThen_ok
abbrev Xl:=@Sem.run_bind
abbrev Xx:=@Sem.run_pure
abbrev KA:=@bne_eq_false_iff_eq
abbrev Qe:=@cond_false
abbrev Qr:=@cond_true
abbrev Qn:=@decide_eq_false
abbrev QU:=@decide_eq_false_iff_not
abbrev Ql:=@decide_eq_true
abbrev Qw:=@decide_eq_true_eq
abbrev Xe:=@of_decide_eq_true
inductive V where
 |b (x:Bool)
 |i (k:IntKind) (n:Int)
 |s (x:ByteArray)
 |sl (z:Nat) (rows:List (List V))
 |sln (β z:Nat) (rows:List (List V))
 |ro (cs:List V)
 |e0
 |own (o n:Nat)
 |loc (o i d:Nat)
 |map (o:Nat)
 |agg (cs:List V)
 |tup (cs:List V)
 |clo (fn:Fn) (first caps:List V)
 |ifc (t:TypeId) (x:V)
 |lit (x:Value)
 |J
def V.one : V->Bool
 |.agg _=>f_|.tup _=>f_|.J=>f_|.lit (.agg _)=>f_|.lit (.tuple _)=>f_|_=>t_
def Bv (z:Nat)(r:L_ V):Prop:=r.length=z/\∀v∈r,v.one=t_
inductive XG (I:Nat->Prop) (w:World):Value->V->Prop where
 |b (x:Bool):XG I w (.bool x) (.b x)
 |i (k:IntKind) (n:Int):XG I w (.int k n) (.i k n)
 |s (x:ByteArray):XG I w (.string x) (.s x)
 |lit (x:Value):XG I w x (.lit x)
 |J (x:Value):XG I w x .J
 |sl0 (a:Option Addr) (cap z:Nat):XG I w (.slice a 0 cap) (.sl z [])
 |sl (b off len cap z:Nat) (rows:List (List V)) (c:Nat->Value):I b->len=rows.length->len<=cap->(∀r∈rows,Bv z r)->
   (∀j,j<len*z->w.cell? ⟨b,off+j,n_⟩=X (c j))->
   (∀(i:Nat) r,rows[i]? = X r->∀(j:Nat) v,r[j]? = X v->XG I w (c (i*z+j)) v)->XG I w (.slice (X ⟨b,off,n_⟩) len cap) (.sl z rows)
 |e0 (a:Option Addr):XG I w (.slice a 0 0) .e0
 |sln0 (β:Nat) (a:Option Addr) (cap z:Nat):XG I w (.slice a 0 cap) (.sln β z [])
 |sln (β b off len cap z:Nat) (rows:List (List V)) (cs:Array Value) (E:TypeId):β<=b->I b->len=rows.length->len<=cap->(∀r∈rows,Bv z r)->
   w.heap[b]? = X (.cells cs E (0,0))->off+len*z<=cs.size->
   (∀(i:Nat) r,rows[i]? = X r->∀(j:Nat) v,r[j]? = X v->XG I w (cs.getD (off+(i*z+j)) undef) v)->XG I w (.slice (X ⟨b,off,n_⟩) len cap) (.sln β z rows)
 |ro (b off:Nat) (cs:List V) (c:Nat->Value):I b->(∀v∈cs,v.one=t_)->(∀j,j<cs.length->w.cell? ⟨b,off+j,n_⟩=X (c j))->
   (∀(j:Nat) v,cs[j]? = X v->XG I w (c j) v)->XG I w (.pointer (X ⟨b,off,n_⟩)) (.ro cs)
 |agg (xs:Array Value) (cs:List V):xs.size=cs.length->(∀(j:Nat) x v,xs[j]? = X x->cs[j]? = X v->XG I w x v)->XG I w (.agg xs) (.agg cs)
 |tup (xs:Array Value) (cs:List V):xs.size=cs.length->(∀(j:Nat) x v,xs[j]? = X x->cs[j]? = X v->XG I w x v)->XG I w (.tuple xs) (.tup cs)
 |ifc (t:TypeId) (x:Value) (v:V):XG I w x v->XG I w (.iface t x) (.ifc t v)
def Kp (w w':World)(k:Nat):Prop:=(∀i,w'.cell? ⟨k,i,n_⟩=w.cell? ⟨k,i,n_⟩)/\∀h E,w.heap[k]? = X (.cells h E (0,0))->w'.heap[k]? = X (.cells h E (0,0))
def Kp.of {w w':World}{k:Nat}(h:w'.heap[k]? = w.heap[k]?):Kp w w' k:=⟨λ_=>World.cell?_of_block h,λ_ _ e=>h.trans e⟩
def XG.monoC {I I':Nat->Prop}{w w':World}(h:∀k,I k->I' k/\Kp w w' k){x:Value}{v:V}(d:XG I w x v):XG I' w' x v:=by
 induction d with
 |b x=>exact .b x|i k n=>exact .i k n|s x=>exact .s x|lit x=>exact .lit x|J x=>exact .J x|sl0 a cap z=>exact .sl0 a cap z|sl b off len cap z rows c hI hl hc hr O _ ih=>
  exact .sl b off len cap z rows c (h b hI).1 hl hc hr (λj hj=>((h b hI).2.1 _).trans (O j hj)) ih
 |e0 a=>exact .e0 a|sln0 β a cap z=>exact .sln0 β a cap z|sln β b off len cap z rows cs E hβ hI hl hc hr O hsz _ ih=>
  exact .sln β b off len cap z rows cs E hβ (h b hI).1 hl hc hr ((h b hI).2.2 _ _ O) hsz ih
 |ro b off cs c hI ho O _ ih=>
  exact .ro b off cs c (h b hI).1 ho (λj hj=>((h b hI).2.1 _).trans (O j hj)) ih
 |agg xs cs hs _ ih=>exact .agg xs cs hs ih|tup xs cs hs _ ih=>exact .tup xs cs hs ih|ifc t x v _ ih=>exact .ifc t x v ih
def XG.lo1 {I:Nat->Prop}{w:World}{x:Value}{β z:Nat}{rows:L_ (L_ V)}(d:XG I w x (.sln β z rows)):XG I w x (.sl z rows):=by
 cases d with
 |sln0=>exact .sl0 _ _ _|sln _ b off O cap _ _ cs E _ hI hl hc hr h hsz hd=>
  refine .sl b off O cap z rows (λj=>cs.getD (off+j) undef) hI hl hc hr (λj hj=>?_) hd;have:off+j<cs.size:=by omega
  simp[World.cell?,h,Array.getD,this]
def XG.mono {I I':Nat->Prop}{w w':World}(h:∀k,I k->I' k/\w'.heap[k]? = w.heap[k]?){x:Value}{v:V}(d:XG I w x v):XG I' w' x v:=
 d.monoC (λk O=>⟨(h k O).1,Kp.of (h k O).2⟩)
structure Xh where
 b:Nat
 cap:Nat
 z:Nat
 more:List Nat:=[]
 off:Nat:=0
def Xh.has (B:Xh)(k:Nat):Prop:=k=B.b\/k∈B.more
def Xh.self (B:Xh):B.has B.b:=.inl rfl
inductive QW (Z:Nat->Option Xh) (I:Nat->Prop) (w:World):Value->V->Prop where
 |dat {x:Value} {v:V}:XG I w x v->QW Z I w x v
 |own0 (o:Nat):QW Z I w (.slice n_ 0 0) (.own o 0)
 |own (o n:Nat) (B:Xh):Z o=X B->n<=B.cap->QW Z I w (.slice (X ⟨B.b,B.off,n_⟩) n B.cap) (.own o n)
 |loc (o i d:Nat) (B:Xh):Z o=X B->QW Z I w (.pointer (X ⟨B.b,B.off+(i*B.z+d),n_⟩)) (.loc o i d)
 |map (o:Nat) (B:Xh):Z o=X B->QW Z I w (.map (X B.b)) (.map o)
 |agg (xs:Array Value) (cs:List V):xs.size=cs.length->(∀(j:Nat) x v,xs[j]? = X x->cs[j]? = X v->QW Z I w x v)->QW Z I w (.agg xs) (.agg cs)
 |tup (xs:Array Value) (cs:List V):xs.size=cs.length->(∀(j:Nat) x v,xs[j]? = X x->cs[j]? = X v->QW Z I w x v)->QW Z I w (.tuple xs) (.tup cs)
 |ifc (t:TypeId) (x:Value) (v:V):QW Z I w x v->QW Z I w (.iface t x) (.ifc t v)
 |clo (fn:Fn) (xs ys:Array Value) (vs us:List V):xs.size=vs.length->ys.size=us.length->(∀(j:Nat) x v,xs[j]? = X x->vs[j]? = X v->QW Z I w x v)->
   (∀(j:Nat) x v,ys[j]? = X x->us[j]? = X v->QW Z I w x v)->QW Z I w (.func fn xs ys) (.clo fn vs us)
def QW.monoC {Z φ':Nat->O_ Xh}{I I':Nat->Prop}{w w':World}(hφ:∀o B,Z o=X B->φ' o=X B)(h:∀k,I k->I' k/\Kp w w' k){x:Value}{v:V}
  (d:QW Z I w x v):QW φ' I' w' x v:=by
 induction d with|dat d=>exact .dat (d.monoC h)|own0 o=>exact .own0 o|own o n B O hn=>exact .own o n B (hφ o B O) hn|loc o i d B O=>exact .loc o i d B (hφ o B O)|map o B O=>exact .map o B (hφ o B O)|agg xs cs hs _ ih=>exact .agg xs cs hs ih|tup xs cs hs _ ih=>exact .tup xs cs hs ih|ifc t x v _ ih=>exact .ifc t x v ih|clo fn xs ys vs us h1 h2 _ _ ih1 ih2=>exact .clo fn xs ys vs us h1 h2 ih1 ih2
def QW.mono {Z φ':Nat->O_ Xh}{I I':Nat->Prop}{w w':World}(hφ:∀o B,Z o=X B->φ' o=X B)(h:∀k,I k->I' k/\w'.heap[k]? = w.heap[k]?){x:Value}{v:V}
  (d:QW Z I w x v):QW φ' I' w' x v:=
 d.monoC hφ (λk O=>⟨(h k O).1,Kp.of (h k O).2⟩)
section inv
variable {Z:Nat->O_ Xh}{I:Nat->Prop}{w:World}{x:Value}
def QW.b_inv {y:Bool}(h:QW Z I w x (.b y)):x=.bool y:=by
 cases h with|dat h=>cases h;rfl
def QW.i_inv {k:IntKind}{n:Int}(h:QW Z I w x (.i k n)):x=.int k n:=by
 cases h with|dat h=>cases h;rfl
def QW.s_inv {y:ByteArray}(h:QW Z I w x (.s y)):x=.string y:=by
 cases h with|dat h=>cases h;rfl
def QW.lit_inv {y:Value}(h:QW Z I w x (.lit y)):x=y:=by
 cases h with|dat h=>cases h;rfl
def QW.agg_inv {O:L_ V}(h:QW Z I w x (.agg O)):∃xs:Array Value,x=.agg xs/\xs.size=O.length/\∀(j:Nat) x v,xs[j]? = X x->O[j]? = X v->QW Z I w x v:=by
 cases h with
 |dat h=>cases h with|agg xs _ hs hr=>exact⟨xs,rfl,hs,λj x v h1 h2=>.dat (hr j x v h1 h2)⟩
 |agg xs _ hs hr=>exact⟨xs,rfl,hs,hr⟩
def QW.tup_inv {O:L_ V}(h:QW Z I w x (.tup O)):∃xs:Array Value,x=.tuple xs/\xs.size=O.length/\∀(j:Nat) x v,xs[j]? = X x->O[j]? = X v->QW Z I w x v:=by
 cases h with
 |dat h=>cases h with|tup xs _ hs hr=>exact⟨xs,rfl,hs,λj x v h1 h2=>.dat (hr j x v h1 h2)⟩
 |tup xs _ hs hr=>exact⟨xs,rfl,hs,hr⟩
def QW.ro_inv {O:L_ V}(h:QW Z I w x (.ro O)):∃b off,x=.pointer (X ⟨b,off,n_⟩)/\I b/\(∀v∈O,v.one=t_)/\∃c:Nat->Value,(∀j,j<O.length->w.cell? ⟨b,off+j,n_⟩=X (c j))/\∀(j:Nat) v,O[j]? = X v->XG I w (c j) v:=by
 cases h with|dat h=>cases h with|ro b off _ c hI ho hc hr=>exact⟨b,off,rfl,hI,ho,c,hc,hr⟩
def QW.loc_inv {o i d:Nat}(h:QW Z I w x (.loc o i d)):∃B,Z o=X B/\x=.pointer (X ⟨B.b,B.off+(i*B.z+d),n_⟩):=by
 cases h with
 |dat h=>cases h
 |loc _ _ _ B O=>exact⟨B,O,rfl⟩
def QW.map_inv {o:Nat}(h:QW Z I w x (.map o)):∃B,Z o=X B/\x=.map (X B.b):=by
 cases h with
 |dat h=>cases h
 |map _ B O=>exact⟨B,O,rfl⟩
def QW.own_inv {o n:Nat}(h:QW Z I w x (.own o n)):(x=.slice n_ 0 0/\n=0)\/∃B,Z o=X B/\n<=B.cap/\x=.slice (X ⟨B.b,B.off,n_⟩) n B.cap:=by
 cases h with
 |dat h=>cases h
 |own0=>exact .inl ⟨rfl,rfl⟩|own _ _ B O hn=>exact .inr ⟨B,O,hn,rfl⟩
def QW.sl_inv {z:Nat}{rows:L_ (L_ V)}(h:QW Z I w x (.sl z rows)):
  (∃a cap,x=.slice a 0 cap/\rows=[])\/
  ∃b off cap,x=.slice (X ⟨b,off,n_⟩) rows.length cap/\I b/\rows.length<=cap/\(∀r∈rows,Bv z r)/\
   ∃c:Nat->Value,(∀j,j<rows.length*z->w.cell? ⟨b,off+j,n_⟩=X (c j))/\∀(i:Nat) r,rows[i]? = X r->∀(j:Nat) v,r[j]? = X v->XG I w (c (i*z+j)) v:=by
 cases h with
 |dat h=>cases h with|sl0 a cap z=>exact .inl ⟨a,cap,rfl,rfl⟩|sl b off len cap z rows c hI hl hc hr O hd=>subst hl;exact .inr ⟨b,off,cap,rfl,hI,hc,hr,c,O,hd⟩
def QW.ifc_inv {t:TypeId}{v:V}(h:QW Z I w x (.ifc t v)):∃y,x=.iface t y/\QW Z I w y v:=by
 cases h with
 |dat h=>cases h with|ifc _ y _ h=>exact⟨y,rfl,.dat h⟩
 |ifc _ y _ h=>exact⟨y,rfl,h⟩
def QW.clo_inv {fn:Fn}{vs us:L_ V}(h:QW Z I w x (.clo fn vs us)):∃xs ys:Array Value,x=.func fn xs ys/\xs.size=vs.length/\ys.size=us.length/\
  (∀(j:Nat) x v,xs[j]? = X x->vs[j]? = X v->QW Z I w x v)/\∀(j:Nat) x v,ys[j]? = X x->us[j]? = X v->QW Z I w x v:=by
 cases h with
 |dat h=>cases h
 |clo _ xs ys _ _ O h2 h3 h4=>exact⟨xs,ys,rfl,O,h2,h3,h4⟩
end inv
structure HP where
 fn:FuncId
 ps:Array Tmp
 assign:Code
 body:Code
inductive Ob where
 |var (cs:List V)
 |lp (l:Nat) (K:HP) (cs:List V) (q:Nat)
 |arr (z:Nat) (rs:List (List V))
 |map (es:List (V×V))
 |grp (z:Nat) (es:List (V×List (List V))) (out:Option V)
 |mapX (bm clock:Nat) (L:List (Nat×(V×V))) (l:List (V×V))
 |itr (bm since:Nat) (seen:Array Nat) (cur:Option Nat)
 |itr0
 |tbl (A:Nat->Nat) (z:Nat) (rs:List (List V))
 |nst (x:Value) (v:V)
 |scr (D:Nat->Nat->Prop) (H:Nat->Nat->Value->Prop)
def Ob.Nil : Ob->Prop
 |.arr _ rs=>rs=[]|.tbl _ _ rs=>rs=[]|.nst x v=>∀w,XG (λ_=>False) w x v|.scr D H=>(∀b i,¬D b i)/\∀b i y,¬H b i y|_=>False
def Ch (I:Nat->Prop)(w:World)(B:Xh)(A:Nat->Nat)(z:Nat)(rs:L_ (L_ V)):Prop:=
 B.b::B.more=(List.range rs.length).map A/\(B.b::B.more).Nodup/\(∀r∈rs,Bv z r)/\
  ∀(i:Nat) r,rs[i]? = X r->∃h E,w.heap[A i]? = X (.cells h E (0,0))/\h.size=z/\∀(j:Nat) v,r[j]? = X v->∃x,h[j]? = X x/\XG I w x v
def Ch.has {I:Nat->Prop}{w:World}{B:Xh}{A:Nat->Nat}{z:Nat}{rs:L_ (L_ V)}(d:Ch I w B A z rs)(k:Nat):B.has k↔∃i,i<rs.length/\A i=k:=by
 have:B.has k↔k∈B.b::B.more:=by unfold Xh.has;exact XP.symm
 rw[this,d.1];simp
def Ch.monoC {I I':Nat->Prop}{w w':World}(h:∀k,I k->I' k/\Kp w w' k){B:Xh}(hB:∀k,B.has k->w'.heap[k]? = w.heap[k]?){A:Nat->Nat}{z:Nat}{rs:L_ (L_ V)}(d:Ch I w B A z rs):Ch I' w' B A z rs:=by
 refine⟨d.1,d.2.1,d.2.2.1,λi r O=>?_⟩;obtain⟨cs,E,h1,h2,h3⟩:=d.2.2.2 i r O;exact⟨cs,E,(hB _ ((d.has _).2 ⟨i,(Xf.1 O).1,rfl⟩)).trans h1,h2,λj v hj=>let ⟨x,hx,hd⟩:=h3 j v hj;⟨x,hx,hd.monoC h⟩⟩
def Ch.mono {I I':Nat->Prop}{w w':World}(h:∀k,I k->I' k/\w'.heap[k]? = w.heap[k]?){B:Xh}(hB:∀k,B.has k->w'.heap[k]? = w.heap[k]?){A:Nat->Nat}{z:Nat}{rs:L_ (L_ V)}(d:Ch I w B A z rs):Ch I' w' B A z rs:=
 Ch.monoC (λk O=>⟨(h k O).1,Kp.of (h k O).2⟩) hB d
def QzF (Z:Nat->O_ Xh)(I:Nat->Prop)(w:World)(B:Xh)(vs:L_ V):Prop:=
 ∃h E,w.heap[B.b]? = X (.cells h E (0,0))/\h.size=vs.length/\B.off=0/\∀(j:Nat) x v,h[j]? = X x->vs[j]? = X v->QW Z I w x v
def YW (I:Nat->Prop)(w:World)(B:Xh)(z:Nat)(rs:L_ (L_ V)):Prop:=
 B.z=z/\rs.length<=B.cap/\(∀r∈rs,Bv z r)/\∃h E,w.heap[B.b]? = X (.cells h E (0,0))/\B.off+B.cap*z<=h.size/\
  ∀(i:Nat) r,rs[i]? = X r->∀(j:Nat) v,r[j]? = X v->∃x,h[B.off+(i*z+j)]? = X x/\XG I w x v
def YW.mk0 {I:Nat->Prop}{w:World}{B:Xh}{z:Nat}{rs:L_ (L_ V)}(hz:B.z=z)(h0:B.off=0)(hl:rs.length<=B.cap)(O:∀r∈rs,Bv z r)(h:Array Value)(E:TypeId)
  (h1:w.heap[B.b]? = X (.cells h E (0,0))) (h2:h.size=B.cap*z) (h3:∀(i:Nat) r,rs[i]? = X r->∀(j:Nat) v,r[j]? = X v->∃x,h[i*z+j]? = X x/\XG I w x v):YW I w B z rs:=
 ⟨hz,hl,O,h,E,h1,by rw[h0,Gp];exact Ih h2.symm,λi r hi j v hj=>by rw[h0,Gp];exact h3 i r hi j v hj⟩
def EA (I:Nat->Prop)(w:World)(B:Xh)(l:L_ (V×V)):Prop:=
 ∃es h,w.heap[B.b]? = X (.map es h)/\MapKept.Stamped es h/\(l.map Prod.fst).Nodup/\es.size=l.length/\
  (∀x∈es.toList,∃p∈l,XG I w x.key p.1/\XG I w x.val p.2)/\∀p∈l,∃x∈es.toList,XG I w x.key p.1/\XG I w x.val p.2
def UX (I:Nat->Prop)(w:World)(B:Xh)(z:Nat)(l:L_ (V×L_ (L_ V)))(out:O_ V):Prop:=
 ∃es h,w.heap[B.b]? = X (.map es h)/\MapKept.Stamped es h/\(l.map Prod.fst).Nodup/\es.size=l.length/\
  ∃O:L_ (O_ Xh),O.length=l.length/\B.more=O.filterMap (Option.map Xh.b)/\(B.b::B.more).Nodup/\
   (∀(i:Nat) (x:MapEntry) E,es[i]? = X x->O[i]? = X E->∃p∈l,XG I w x.key p.1/\((∃F,E=X F/\F.more=[]/\out≠X p.1/\YW I w F z p.2/\x.val=.slice (X ⟨F.b,F.off,n_⟩) p.2.length F.cap)\/(E=n_/\out=X p.1)))/\
   (∀p∈l,∃(i:Nat) (x:MapEntry),es[i]? = X x/\XG I w x.key p.1)
def Ft (I:Nat->Prop)(w:World)(B:Xh)(O h:Nat)(L:L_ (Nat×(V×V)))(l:L_ (V×V)):Prop:=
 B.b=O/\∃M:L_ (MapEntry×(V×V)),M.map (λq=>(q.1.born,q.2))=L/\w.heap[B.b]? = X (.map (M.map Prod.fst).toArray h)/\MapKept.Stamped (M.map Prod.fst).toArray h/\(l.map Prod.fst).Nodup/\(M.map Prod.snd).Perm l/\
  ∀q∈M,XG I w q.1.key q.2.1/\XG I w q.1.val q.2.2
def Qc0 (w:World)(B:Xh)(bm h:Nat)(O:Array Nat)(cur:O_ Nat):Prop:=
 w.heap[B.b]? = X (.mapIter (X bm) h O h)/\B.off=0/\∀x,cur=X x->∃s0:Array Nat,O=s0.push x
def jmp : Nat->O_ Code
 |0=>n_|1=>n_|2=>X .ret|k+3=>X (.exit k)
def lst : Nat->LoopState
 |0=>.ready|1=>.busy|_=>.done
def QyB (Z:Nat->O_ Xh)(I:Nat->Prop)(w:World)(B:Xh)(l:Nat)(K:HP)(vs:L_ V)(q:Nat):Prop:=
 ∃tmps D,B.b=l/\B.more=[]/\w.heap[l]? = X (.loop { state:=lst q,pending:=jmp q,fn:=K.fn,tmps,params:=K.ps,assign:=K.assign,body:=K.body,defers:=D })/\tmps.size=vs.length/\
  ∀(j:Nat) x v,tmps[j]? = X x->vs[j]? = X v->QW Z I w x v
def Qc1 (w:World)(B:Xh)(x:Value)(v:V):Prop:=XG B.has w x v/\∀k,B.has k->∃h E,w.heap[k]? = X (.cells h E (0,0))
def Qc1.mono {w w':World}{B:Xh}(hB:∀k,B.has k->w'.heap[k]? = w.heap[k]?){x:Value}{v:V}(d:Qc1 w B x v):Qc1 w' B x v:=
 ⟨d.1.mono λk O=>⟨O,hB k O⟩,λk O=>let ⟨cs,E,h⟩:=d.2 k O;⟨cs,E,(hB k O).trans h⟩⟩
def Qc2 (w:World)(B:Xh)(D:Nat->Nat->Prop)(H:Nat->Nat->Value->Prop):Prop:=
 (∀b i,D b i->B.has b/\∃h E n,w.heap[b]? = X (.cells h E (0,0))/\h[i]? = X (.int .i64 n))/\∀b i y,H b i y->B.has b/\¬D b i/\w.cell? ⟨b,i,n_⟩=X y
def Qc2.mono {w w':World}{B:Xh}(O:∀k,B.has k->w'.heap[k]? = w.heap[k]?){D:Nat->Nat->Prop}{H:Nat->Nat->Value->Prop}(d:Qc2 w B D H):Qc2 w' B D H:=
 ⟨λb i h=>let ⟨h1,cs,E,n,h2,h3⟩:=d.1 b i h;⟨h1,cs,E,n,(O b h1).trans h2,h3⟩,λb i y h=>let ⟨h1,h2,h3⟩:=d.2 b i y h;⟨h1,h2,(World.cell?_of_block (O b h1)).trans h3⟩⟩
def KH (Z:Nat->O_ Xh)(I:Nat->Prop)(w:World)(B:Xh):Ob->Prop
 |.var vs=>QzF Z I w B vs|.lp l K vs q=>QyB Z I w B l K vs q|.arr z rs=>YW I w B z rs|.map l=>EA I w B l|.grp z l out=>UX I w B z l out|.mapX bm h L l=>Ft I w B bm h L l|.itr bm O seen cur=>Qc0 w B bm O seen cur|.itr0=>∃s c,w.heap[B.b]? = X (.mapIter n_ 0 s c)/\B.off=0|.tbl A z rs=>Ch I w B A z rs|.nst x v=>Qc1 w B x v|.scr D H=>Qc2 w B D H
def YW.monoC {I I':Nat->Prop}{w w':World}(h:∀k,I k->I' k/\Kp w w' k){B:Xh}(hB:w'.heap[B.b]? = w.heap[B.b]?){z:Nat}{rs:L_ (L_ V)}(d:YW I w B z rs):
  YW I' w' B z rs:=by
 obtain⟨h1,h2,h3,O,E,h4,h5,h6⟩:=d;exact⟨h1,h2,h3,O,E,hB.trans h4,h5,λi r hi j v hj=>let ⟨x,hx,hr⟩:=h6 i r hi j v hj;⟨x,hx,hr.monoC h⟩⟩
def YW.mono {I I':Nat->Prop}{w w':World}(h:∀k,I k->I' k/\w'.heap[k]? = w.heap[k]?){B:Xh}(hB:w'.heap[B.b]? = w.heap[B.b]?){z:Nat}{rs:L_ (L_ V)}(d:YW I w B z rs):
  YW I' w' B z rs:=
 YW.monoC (λk O=>⟨(h k O).1,Kp.of (h k O).2⟩) hB d
def EA.monoC {I I':Nat->Prop}{w w':World}(h:∀k,I k->I' k/\Kp w w' k){B:Xh}(hB:w'.heap[B.b]? = w.heap[B.b]?){l:L_ (V×V)}(d:EA I w B l):EA I' w' B l:=by
 obtain⟨es,O,h1,h2,h3,h4,h5,h6⟩:=d;exact⟨es,O,hB.trans h1,h2,h3,h4,λx hx=>let ⟨p,hp,a,b⟩:=h5 x hx;⟨p,hp,a.monoC h,b.monoC h⟩,λp hp=>let ⟨x,hx,a,b⟩:=h6 p hp;⟨x,hx,a.monoC h,b.monoC h⟩⟩
def EA.mono {I I':Nat->Prop}{w w':World}(h:∀k,I k->I' k/\w'.heap[k]? = w.heap[k]?){B:Xh}(hB:w'.heap[B.b]? = w.heap[B.b]?){l:L_ (V×V)}(d:EA I w B l):EA I' w' B l:=
 EA.monoC (λk O=>⟨(h k O).1,Kp.of (h k O).2⟩) hB d
def Qxn {O:L_ (O_ Xh)}{i:Nat}{F:Xh}(h:O[i]? = X (X F)):F.b∈O.filterMap (Option.map Xh.b):=List.mem_filterMap.2 ⟨X F,XB h,rfl⟩
def UX.monoC {I I':Nat->Prop}{w w':World}(h:∀k,I k->I' k/\Kp w w' k){B:Xh}(hB:∀k,B.has k->w'.heap[k]? = w.heap[k]?){z:Nat}{l:L_ (V×L_ (L_ V))}{out:O_ V}(d:UX I w B z l out):UX I' w' B z l out:=by
 obtain⟨es,O,h1,h2,h3,h4,bs,h5,h6,h7,h8,h9⟩:=d;refine⟨es,O,(hB _ B.self).trans h1,h2,h3,h4,bs,h5,h6,h7,λi x E hx hE=>?_,λp hp=>let ⟨i,x,a,b⟩:=h9 p hp;⟨i,x,a,b.monoC h⟩⟩;obtain⟨p,hp,a1,a2⟩:=h8 i x E hx hE;refine⟨p,hp,a1.monoC h,a2.imp (λ⟨F,c0,c1,c2,c3,c4⟩=>⟨F,c0,c1,c2,c3.monoC h (hB _ (.inr ?_)),c4⟩) id⟩;subst c0;rw[h6];exact Qxn hE
def UX.mono {I I':Nat->Prop}{w w':World}(h:∀k,I k->I' k/\w'.heap[k]? = w.heap[k]?){B:Xh}(hB:∀k,B.has k->w'.heap[k]? = w.heap[k]?){z:Nat}{l:L_ (V×L_ (L_ V))}{out:O_ V}(d:UX I w B z l out):UX I' w' B z l out:=
 UX.monoC (λk O=>⟨(h k O).1,Kp.of (h k O).2⟩) hB d
def Ft.monoC {I I':Nat->Prop}{w w':World}(h:∀k,I k->I' k/\Kp w w' k){B:Xh}(hB:w'.heap[B.b]? = w.heap[B.b]?){bm O:Nat}{L:L_ (Nat×(V×V))}{l:L_ (V×V)}(d:Ft I w B bm O L l):Ft I' w' B bm O L l:=by
 obtain⟨h1,M,h0,h2,h3,h4,h5,h6⟩:=d;exact⟨h1,M,h0,hB.trans h2,h3,h4,h5,λq hq=>⟨(h6 q hq).1.monoC h,(h6 q hq).2.monoC h⟩⟩
def Ft.mono {I I':Nat->Prop}{w w':World}(h:∀k,I k->I' k/\w'.heap[k]? = w.heap[k]?){B:Xh}(hB:w'.heap[B.b]? = w.heap[B.b]?){bm O:Nat}{L:L_ (Nat×(V×V))}{l:L_ (V×V)}(d:Ft I w B bm O L l):Ft I' w' B bm O L l:=
 Ft.monoC (λk hk=>⟨(h k hk).1,Kp.of (h k hk).2⟩) hB d
def Qc0.mono {w w':World}{B:Xh}(hB:w'.heap[B.b]? = w.heap[B.b]?){bm h:Nat}{O:Array Nat}{cur:O_ Nat}(d:Qc0 w B bm h O cur):Qc0 w' B bm h O cur:=
 ⟨hB.trans d.1,d.2⟩
def KH.monoC {Z φ':Nat->O_ Xh}{I I':Nat->Prop}{w w':World}(hφ:∀o B,Z o=X B->φ' o=X B)(h:∀k,I k->I' k/\Kp w w' k)
  {B:Xh} (O:∀k,B.has k->w'.heap[k]? = w.heap[k]?) {ob:Ob} (d:KH Z I w B ob):KH φ' I' w' B ob:=by
 cases ob with
 |var vs=>
  obtain⟨cs,E,h1,h2,h0,h3⟩:=d;exact⟨cs,E,(O _ B.self).trans h1,h2,h0,λj x v hx hv=>(h3 j x v hx hv).monoC hφ h⟩
 |lp l K vs q=>
  obtain⟨tmps,D,rfl,h1,h2,h3,h4⟩:=d;exact⟨tmps,D,rfl,h1,(O _ B.self).trans h2,h3,λj x v hx hv=>(h4 j x v hx hv).monoC hφ h⟩
 |arr z rs=>exact YW.monoC h (O _ B.self) d|map l=>exact EA.monoC h (O _ B.self) d|grp z l lk=>exact UX.monoC h O d|mapX bm clock L l=>exact Ft.monoC h (O _ B.self) d|itr bm since seen cur=>exact Qc0.mono (O _ B.self) d|itr0=>obtain⟨s,c,h1⟩:=d;exact⟨s,c,(O _ B.self).trans h1.1,h1.2⟩
 |tbl A z rs=>exact Ch.monoC h O d|nst x v=>exact Qc1.mono O d|scr D H=>exact Qc2.mono O d
def KH.mono {Z φ':Nat->O_ Xh}{I I':Nat->Prop}{w w':World}(hφ:∀o B,Z o=X B->φ' o=X B)(h:∀k,I k->I' k/\w'.heap[k]? = w.heap[k]?)
  {B:Xh} (hB:∀k,B.has k->w'.heap[k]? = w.heap[k]?) {ob:Ob} (d:KH Z I w B ob):KH φ' I' w' B ob:=
 KH.monoC hφ (λk O=>⟨(h k O).1,Kp.of (h k O).2⟩) hB d
def look {α:Type}:L_ (Nat×α)->Nat->O_ α
 |[],_=>n_|(k,v)::r,t=>bif Nat.beq k t then X v else look r t
def QD {α:Type}(k:Nat)(v:α)(r:L_ (Nat×α)):look ((k,v)::r) k=X v:=by simp[look]
def QA {α:Type}{k t:Nat}(v:α)(r:L_ (Nat×α))(h:k≠t):look ((k,v)::r) t=look r t:=by
 have:Nat.beq k t=f_:=by
  cases O:Nat.beq k t with|false=>rfl|true=>exact absurd (Yp O) h
 simp[look,this]
abbrev H_:=L_ (Nat×Ob)
abbrev S_:=L_ (Nat×V)
structure St where
 fr:List (Nat×V)
 hp:List (Nat×Ob)
def St.put (Y:St)(t:Nat)(v:V):St:={ fr:=(t,v)::Y.fr,hp:=Y.hp }
def St.set (Y:St)(o:Nat)(ob:Ob):St:={ fr:=Y.fr,hp:=(o,ob)::Y.hp }
def Fu : Value->V
 |.bool x=>.b x|.int k n=>.i k n|.string x=>.s x|x=>.lit x
def St.opd (Y:St):Operand->O_ V
 |.tmp t=>look Y.fr t|.const v=>X (Fu v)|.func f=>X (.clo (.func f) [] [])|.global g=>X (.lit (.pointer (X ⟨g,0,n_⟩)))
structure XC where
 w0:World
 S:Nat->Prop
 W:Nat->Prop
 n:Nat
 φ0:Nat->Option Xh
 small:n<=621
 rnd:Option Nat:=n_
abbrev B_ (d:Nat) (C:XC):Prop:=Nat.ble (d+1) C.n=t_
def XC.F (C:XC):Fence:={ fn:=λ_=>True,depth:=n_,alive:=f_,round:=C.rnd }
def Qr9 (b:Nat)(I:Nat->Prop)(w:World)(ds:L_ Deferred):Prop:=∃h:L_ Nat,ds=h.map (λD=>{ target:=.collected D,args:=#[] })/\h.Nodup/\∀D∈h,b<=D/\I D/\w.heap[D]? = X (.deferred (X []))
def Qr9.mono {b:Nat}{I I':Nat->Prop}{w w':World}(h:∀k,I k->I' k/\w'.heap[k]? = w.heap[k]?){ds:L_ Deferred}(m:Qr9 b I w ds):Qr9 b I' w' ds:=by
 obtain⟨O,h1,h2,h3⟩:=m;exact⟨O,h1,h2,λD hD=>let ⟨a1,a2,a3⟩:=h3 D hD;⟨a1,(h D a2).1,(h D a2).2.trans a3⟩⟩
def Xp (C:XC)(Z:Nat->O_ Xh)(w:World)(k:Nat):Prop:=
 k<w.heap.size/\(k<C.w0.heap.size->C.S k)/\∀o B,Z o=X B->¬B.has k
def QeE (φ0 Z:Nat->O_ Xh)(hp:H_):Prop:=(∀o B,621<=o->Z o=X B->φ0 o=X B)/\∀o ob B,621<=o->look hp o=X ob->φ0 o=X B->Z o=X B
def QeE.sub {φ0 Z:Nat->O_ Xh}{hp O:H_}(h:QeE φ0 Z hp)(hs:∀o ob,look O o=X ob->∃ob',look hp o=X ob'):QeE φ0 Z O:=
 ⟨h.1,λo ob B h1 h2 h3=>let ⟨ob',h4⟩:=hs o ob h2;h.2 o ob' B h1 h4 h3⟩
structure RR (C:XC) (Z:Nat->Option Xh) (Y:St) (a:Act) (w:World):Prop where
 os:w.os=C.w0.os
 tape:w.tape=C.w0.tape
 output:w.output=C.w0.output
 size:C.w0.heap.size<=w.heap.size
 kept:∀k,k<C.w0.heap.size->¬C.W k->w.heap[k]? = C.w0.heap[k]?
 inj:∀o o' B B' k,Z o=X B->Z o'=X B'->B.has k->B'.has k->o=o'
 dom:∀o B,Z o=X B->∃ob,look Y.hp o=X ob
 lt:∀o B k,Z o=X B->B.has k->k<w.heap.size/\(k<C.w0.heap.size->C.W k)
 new:∀o B k,Z o=X B->B.has k->o<619->C.w0.heap.size<=k
 stay:QeE C.φ0 Z Y.hp
 tmps:a.tmps.size=C.n
 defers:Qr9 C.w0.heap.size (Xp C Z w) w a.defers
 frame:∀t v,look Y.fr t=X v->∃x,a.tmps[t]? = X x/\QW Z (Xp C Z w) w x v
 heap:∀o ob,look Y.hp o=X ob->(∃B,Z o=X B/\KH Z (Xp C Z w) w B ob)\/(Z o=n_/\ob.Nil)
def R (C:XC)(Y:St)(a:Act)(w:World):Prop:=∃Z,RR C Z Y a w
section
variable {C:XC}{Z:Nat->O_ Xh}{Y:St}{a:Act}{w:World}
def RR.opd (h:RR C Z Y a w){x:Operand}{v:V}(O:Y.opd x=X v):QW Z (Xp C Z w) w (a.eval x) v:=by
 cases x with
 |tmp t=>
  obtain⟨x,hx,hr⟩:=h.frame t v O;simpa[Act.eval,QfA,hx] using hr
 |const c=>
  simp only[St.opd,Option.some.injEq]at O;subst O;cases c<;>first|exact .dat (.b _)|exact .dat (.i _ _)|exact .dat (.s _)|exact .dat (.lit _)
 |global g=>simp only[St.opd,Option.some.injEq]at O;subst O;exact .dat (.lit _)|func f=>simp only[St.opd,Option.some.injEq]at O;subst O;exact .clo (.func f) #[] #[] [] [] rfl rfl (λj x v h=>by simp at h) (λj x v h=>by simp at h)
def RR.put (h:RR C Z Y a w){t:Nat}{x:Value}{v:V}(ht:t<C.n)(hx:QW Z (Xp C Z w) w x v):RR C Z (Y.put t v) (a.put (X t) x) w:=by
 refine⟨h.os,h.tape,h.output,h.size,h.kept,h.inj,h.dom,h.lt,h.new,h.stay,by simpa[Act.put] using h.tmps,h.defers,?_,h.heap⟩;intro t' v' O;by_cases ht':t=t'
 ·subst ht';rw[St.put,QD]at O;cases O;exact⟨x,by simp[Act.put,QfB,h.tmps,ht],hx⟩
 rw[St.put,QA _ _ ht']at O;obtain⟨y,hy,hr⟩:=h.frame t' v' O;exact⟨y,by simpa[Act.put,QfB,ht'] using hy,hr⟩
def RR.le (h:RR C Z Y a w){fr:S_}(O:∀t v,look fr t=X v->look Y.fr t=X v):RR C Z ⟨fr,Y.hp⟩ a w:=
 ⟨h.os,h.tape,h.output,h.size,h.kept,h.inj,h.dom,h.lt,h.new,h.stay,h.tmps,h.defers,λt v hv=>h.frame t v (O t v hv),h.heap⟩
def RR.step (h:RR C Z Y a w){w':World}(ho:w'.os=w.os)(ht:w'.tape=w.tape)(hu:w'.output=w.output)(hs:w.heap.size<=w'.heap.size)
  (hk:∀k,k<w.heap.size->w'.heap[k]? = w.heap[k]?):RR C Z Y a w':=by
 have hI:∀k,Xp C Z w k->Xp C Z w' k/\w'.heap[k]? = w.heap[k]? := λk O=>⟨⟨Ez O.1 hs,O.2⟩,hk k O.1⟩;refine⟨ho.trans h.os,ht.trans h.tape,hu.trans h.output,Yq h.size hs,λk h1 h2=>(hk k (Ez h1 h.size)).trans (h.kept k h1 h2),h.inj,h.dom,
  λo B k hB hk=>⟨Ez (h.lt o B k hB hk).1 hs,(h.lt o B k hB hk).2⟩,h.new,h.stay,h.tmps,h.defers.mono hI,?_,?_⟩
 ·intro t v hv;obtain⟨x,hx,hr⟩:=h.frame t v hv;exact⟨x,hx,hr.mono (λ_ _ h=>h) hI⟩
 intro o ob hob;rcases h.heap o ob hob with⟨B,hB,hr⟩|hn
 ·exact .inl ⟨B,hB,hr.mono (λ_ _ h=>h) hI λk O=>hk _ (h.lt o B k hB O).1⟩
 exact .inr hn
end
inductive Qc3 {Y ρ:Type} (body:Y->Option (Y⊕ρ)):Y->ρ->Prop where
 |done {s:Y} {r:ρ}:body s=X (.inr r)->Qc3 body s r
 |next {s s':Y} {r:ρ}:body s=X (.inl s')->Qc3 body s' r->Qc3 body s r
def Qc3.det {Y ρ:Type}{body:Y->O_ (Y⊕ρ)}{s:Y}{r r':ρ}(h:Qc3 body s r)(h':Qc3 body s r'):r=r':=by
 induction h with
 |done h=>cases h' with
  |done O=>rw[h]at O;cases O;rfl
  |next O _=>rw[h]at O;cases O
 |next h _ ih=>cases h' with
  |done O=>rw[h]at O;cases O
  |next O h3=>rw[h]at O;cases O;exact ih h3
def loopN {Y ρ:Type}(body:Y->O_ (Y⊕ρ)):Nat->Y->O_ ρ
 |0,_=>n_|n+1,s=>match body s with|none=>n_|some (.inl h)=>loopN body n h|some (.inr r)=>X r
def Quv {Y ρ:Type}{body:Y->O_ (Y⊕ρ)}{r:ρ}:∀(n:Nat) (s:Y),loopN body n s=X r->Qc3 body s r:=by
 intro n
 induction n with
 |zero=>intro s h;cases h
 |succ n ih=>
  intro s h;rw[loopN]at h;split at h
  ·cases h
  ·rename_i s' O;exact .next O (ih s' h)
  rename_i r' O;cases h;exact .done O
open Classical in
noncomputable def Qq {Y ρ:Type}(body:Y->O_ (Y⊕ρ))(s:Y):O_ ρ:=match loopN body 5000 s with|some r=>X r|none=>if h:∃r,Qc3 body s r then X h.choose else n_
def Qbk {Y ρ:Type}{body:Y->O_ (Y⊕ρ)}{s:Y}{r:ρ}:Qq body s=X r↔Qc3 body s r:=by
 unfold Qq;split
 ·rename_i r' hr;have O:=Quv _ _ hr;exact⟨λh=>by cases h;exact O,λh=>congrArg X (O.det h)⟩
 constructor
 ·intro h;split at h
  ·rename_i hx;cases h;exact hx.choose_spec
  cases h
 intro h;rw[dif_pos ⟨r,h⟩];exact congrArg X ((Exists.choose_spec (⟨r,h⟩:∃r,Qc3 body s r)).det h)
def Yl {Y ρ:Type}(body:Y->O_ (Y⊕ρ))(s:Y):
  Qq body s=(body s).bind λx=>match x with | .inl s'=>Qq body s' | .inr r=>X r:=by
 apply Option.ext;intro r;rw[Qbk];constructor
 ·intro h;cases h with|done h=>simp[h]|next h h'=>simp[h,Qbk.2 h']
 intro h;cases O:body s with
 |none=>simp[O]at h|some x=>
  cases x with|inl s'=>simp[O]at h;exact .next O (Qbk.1 h)|inr r'=>simp[O]at h;subst h;exact .done O
def QiO {P:Program}{ro:O_ Nat}{ρ:Operand->Value}{o:Oper}{w w':World}{v:Value}(h:(execOp ρ o).run P w=.ok (.value v) w'):(o.semAt ro ρ).run P w=.ok (.value v) w':=by
 have O:∀c,o.op≠.defer c:=λc e=>by
  simp only[execOp,e,Xl]at h;cases hr:(resolve ρ c o.type).run P w<;>rw[hr]at h<;>simp[Result.andThen]at h
 rwa[Oper.semAt_eq _ _ _ O]
def QyQ {P:Program}{ro:O_ Nat}{ρ:Operand->Value}{o:Oper}{w w':World}(h:(execOp ρ o).run P w=.ok .skip w'):(o.semAt ro ρ).run P w=.ok .skip w':=by
 have O:∀c,o.op≠.defer c:=λc e=>by
  simp only[execOp,e,Xl]at h;cases hr:(resolve ρ c o.type).run P w<;>rw[hr]at h<;>simp[Result.andThen]at h
 rwa[Oper.semAt_eq _ _ _ O]
def Qgi {P:Program}{ro:O_ Nat}{ρ:Operand->Value}{o:Oper}{w w':World}{f:FuncId}{xs:Array Value}(h:(execOp ρ o).run P w=.ok (.enter f xs) w'):(o.semAt ro ρ).run P w=.ok (.enter f xs) w':=by
 have O:∀c,o.op≠.defer c:=λc e=>by
  simp only[execOp,e,Xl]at h;cases hr:(resolve ρ c o.type).run P w<;>rw[hr]at h<;>simp[Result.andThen]at h
 rwa[Oper.semAt_eq _ _ _ O]
def Qgj {C:XC}{n:Nat}{P:Program}{f:FuncId}{args:Array Value}{w:World}{R:Ending->World->Prop}(h:Calls P f args w R):CallsIn C.F n P f args w R:=
 (callsIn_wide (n:=n)).2 h
def up (C:XC)(Q:Exit->St->Prop):Exit->Act->World->Prop:=λe a w=>∃Y,Q e Y/\R C Y a w
def YX (P:Program)(C:XC)(c:Code)(Y:St)(Q:Exit->St->Prop):Prop:=∀a w,R C Y a w->c.wpIn C.F 0 P (up C Q) a w
def Qg3 (K:St->Prop)(Q:Exit->St->Prop):Exit->St->Prop
 |.normal,Y=>K Y|e,Y=>Q e Y
def Qc4 (id:Nat)(Q:Exit->St->Prop):Exit->St->Prop
 |.exit h,Y=>bif Nat.beq h id then Q .normal Y else Q (.exit h) Y|e,Y=>Q e Y
section
variable {P:Program}{C:XC}{Y:St}{Q:Exit->St->Prop}
def YX.mono {c:Code}{O:Exit->St->Prop}(h:YX P C c Y Q)(hq:∀e Y,Q e Y->O e Y):YX P C c Y O:=
 λa w hR=>wpIn_mono (h a w hR) λe a w ⟨Y,h1,h2⟩=>⟨Y,hq e Y h1,h2⟩
def YX.seq {x y:Code}(h:YX P C x Y (Qg3 (λσ'=>YX P C y σ' Q) Q)):YX P C (.seq x y) Y Q:=by
 intro a w hR;refine wpIn_seq (wpIn_mono (h a w hR) ?_);rintro e a' w' ⟨σ',hq,O⟩;cases e with|normal=>exact hq a' w' O|_=>exact⟨σ',hq,O⟩
def YX.cond_true {c:Operand}{x y:Code}(hc:Y.opd c=X (.b t_))(h:YX P C x Y Q):YX P C (.cond c x y) Y Q:=
 λa w O=>let ⟨_,hr⟩:=O;wpIn_cond_true (hr.opd hc).b_inv (h a w O)
def YX.cond_false {c:Operand}{x y:Code}(hc:Y.opd c=X (.b f_))(h:YX P C y Y Q):YX P C (.cond c x y) Y Q:=
 λa w O=>let ⟨_,hr⟩:=O;wpIn_cond_false (hr.opd hc).b_inv (h a w O)
def YX.condT {c:Operand}{x y:Code}{t:Bool}(O:Y.opd c=X (.b t))(ht:t=t_)(h:YX P C x Y Q):YX P C (.cond c x y) Y Q:=
 YX.cond_true (ht▸O) h
def YX.condF {c:Operand}{x y:Code}{t:Bool}(O:Y.opd c=X (.b t))(ht:t=f_)(h:YX P C y Y Q):YX P C (.cond c x y) Y Q:=
 YX.cond_false (ht▸O) h
def YX.block {id:Nat}{c:Code}(h:YX P C c Y (Qc4 id Q)):YX P C (.block id c) Y Q:=by
 intro a w hR;refine wpIn_block (wpIn_mono (h a w hR) ?_);rintro e a' w' ⟨σ',hq,O⟩;cases e with
 |exit id'=>
  simp only[Exit.inBlock,Qc4]at *;cases hb:Nat.beq id' id with|true=>rw[hb]at hq;rw[if_pos (Yp hb)];exact⟨σ',hq,O⟩|false=>rw[hb]at hq;rw[if_neg (λe=>by subst e;simp at hb)];exact⟨σ',hq,O⟩
 |_=>exact⟨σ',hq,O⟩
def YX.weaken {c:Code}{σ':St}(h:∀a w,R C Y a w->R C σ' a w)(k:YX P C c σ' Q):YX P C c Y Q:=λa w O=>k a w (h a w O)
def QBo {id O:Nat}(he:Nat.beq O id=t_)(h:Q .normal Y):Qc4 id Q (.exit O) Y:=by
 show(bif Nat.beq O id then _ else _);rw[he];exact h
def QBp {id O:Nat}(he:Nat.beq O id=f_)(h:Q (.exit O) Y):Qc4 id Q (.exit O) Y:=by
 show(bif Nat.beq O id then _ else _);rw[he];exact h
def YX.seqK {x y:Code}(K:St->Prop)(O:YX P C x Y (Qg3 K Q))(hy:∀σ',K σ'->YX P C y σ' Q):YX P C (.seq x y) Y Q:=
 YX.seq (O.mono λe σ' h=>by cases e<;>first|exact hy σ' h|exact h)
def YX.loop {τ ρ:Type}{body:τ->O_ (τ⊕ρ)}{c:Code}(E:τ->St->Prop)(O:ρ->Exit->St->Prop){s0:τ}{r:ρ}
  (round:∀s o Y,E s Y->body s=X o->YX P C c Y (Qg3 (λσ'=>∃s',o=.inl s'/\E s' σ') (λe σ'=>∃r,o=.inr r/\O r e σ')))
  (hr:Qc3 body s0 r) (h0:E s0 Y) (hQ:∀e σ',O r e σ'->Q e σ'):YX P C (.loop c) Y Q:=by
 have key:∃n,∀Y a w,E s0 Y->R C Y a w->Code.roundsIn C.F 0 P c (up C Q) n a w:=by
  clear h0
  induction hr with
  |done hb=>
   refine⟨1,λY a w hE hR=>?_⟩;rw[roundsIn_succ];refine wpIn_mono (round _ _ Y hE hb a w hR) ?_;rintro e a' w' ⟨σ',hq,hR'⟩;cases e with
   |normal=>obtain⟨s',h,_⟩:=hq;cases h
   |_=>obtain⟨r,h,hp⟩:=hq;cases h;exact⟨σ',hQ _ _ hp,hR'⟩
  |next hb hn ih=>
   obtain⟨n,hn⟩:=ih hQ;refine⟨n+1,λY a w hE hR=>?_⟩;rw[roundsIn_succ];refine wpIn_mono (round _ _ Y hE hb a w hR) ?_;rintro e a' w' ⟨σ',hq,hR'⟩;cases e with
   |normal=>obtain⟨s',h,hE'⟩:=hq;cases h;exact hn σ' a' w' hE' hR'
   |_=>obtain⟨r,h,hp⟩:=hq;cases h
 obtain⟨n,hn⟩:=key;exact λa w hR=>wpIn_loop_rounds n (hn Y a w h0 hR)
end
def AL (P:Program)(C:XC)(ops:Array Oper)(l:L_ Oper)(Y:St)(Q:Exit->St->Prop):Prop:=∀a w,R C Y a w->wpListIn C.F 0 P ops (up C Q) l a w
def Qf (P:Program)(C:XC)(o:Oper)(Y σ':St):Prop:=
 ∀a w,R C Y a w->∀(next:Act->World->Prop) (Q:Exit->Act->World->Prop),(∀h w',R C σ' h w'->next h w')->o.wpIn C.F 0 P a w next Q
section
variable {P:Program}{C:XC}{ops:Array Oper}{Y σ':St}{Q:Exit->St->Prop}{o:Oper}{rest:L_ Oper}
def YX.region {id:Nat}(h:AL P C ops ops.toList Y Q):YX P C (.region id ops f_) Y Q:=by
 intro a w O;exact wpIn_region_list (h a w O)
def AL.nil (h:Q .normal Y):AL P C ops [] Y Q:=λa w O=>⟨Y,h,O⟩
def AL.weaken (h:∀a w,R C Y a w->R C σ' a w)(k:AL P C ops rest σ' Q):AL P C ops rest Y Q:=λa w O=>k a w (h a w O)
def AL.cons (hg:o.guard=n_)(h:Qf P C o Y σ')(k:AL P C ops rest σ' Q):AL P C ops (o::rest) Y Q:=by
 intro a w hR;simp only[wpListIn,Region.wanted,hg,if_true];exact(h a w hR _ _ λa' w' O=>k a' w' O)
def R.yielded {a:Act}{w:World}(hR:R C Y a w){j d:Nat}{t:Bool}(hj:((ops[j]?).bind (·.dst))=X d)(hv:look Y.fr d=X (.b t)):yielded ops a.tmps j=X t:=by
 obtain⟨Z,hr⟩:=hR;obtain⟨x,O,h⟩:=hr.frame d _ hv;rw[h.b_inv]at O;simp[Go.yielded,hj,O]
def AL.consG {j d:Nat}{t:Bool}(hg:o.guard=X (j,t))(hj:((ops[j]?).bind (·.dst))=X d)(hv:look Y.fr d=X (.b t))(h:Qf P C o Y σ')(k:AL P C ops rest σ' Q):
  AL P C ops (o::rest) Y Q:=by
 intro a w hR;simp only[wpListIn,Region.wanted,hg,hR.yielded hj hv];simp only[beq_self_eq_true,if_true];exact(h a w hR _ _ λa' w' O=>k a' w' O)
def AL.consGT {j d:Nat}{c t:Bool}(hg:o.guard=X (j,t))(hj:((ops[j]?).bind (·.dst))=X d)(hv:look Y.fr d=X (.b c))(O:c=t)(h:Qf P C o Y σ')(k:AL P C ops rest σ' Q):
  AL P C ops (o::rest) Y Q:=AL.consG hg hj (O▸hv) h k
def AL.consN {j d t:Nat}{u:Bool}(O:o.guard=X (j,!u))(hj:((ops[j]?).bind (·.dst))=X d)(hv:look Y.fr d=X (.b u))(ho:o.dst=X t)(ht:t<C.n)
  (k:AL P C ops rest (Y.put t (.lit undef)) Q):AL P C ops (o::rest) Y Q:=by
 intro a w h;simp only[wpListIn,Region.wanted,O,h.yielded hj hv];rw[if_neg (by cases u<;>decide)];refine⟨λ_ _=>trivial,k _ _ ?_⟩;obtain⟨Z,hr⟩:=h;rw[ho];exact⟨Z,hr.put ht (.dat (.lit _))⟩
def AL.consN0 {j d:Nat}{u:Bool}(O:o.guard=X (j,!u))(hj:((ops[j]?).bind (·.dst))=X d)(hv:look Y.fr d=X (.b u))(ho:o.dst=n_)
  (k:AL P C ops rest Y Q):AL P C ops (o::rest) Y Q:=by
 intro a w h;simp only[wpListIn,Region.wanted,O,h.yielded hj hv];rw[if_neg (by cases u<;>decide)];refine⟨λ_ _=>trivial,k _ _ ?_⟩;rw[ho];exact h
def AL.consNT {j d t:Nat}{c u:Bool}(O:o.guard=X (j,u))(hj:((ops[j]?).bind (·.dst))=X d)(hv:look Y.fr d=X (.b c))(h:c=!u)(ho:o.dst=X t)(ht:B_ t C)
  (k:AL P C ops rest (Y.put t (.lit undef)) Q):AL P C ops (o::rest) Y Q:=
 AL.consN (u:=!u) (by rw[O];simp) hj (h▸hv) ho (JC ht) k
def AL.consNT0 {j d:Nat}{c u:Bool}(O:o.guard=X (j,u))(hj:((ops[j]?).bind (·.dst))=X d)(hv:look Y.fr d=X (.b c))(h:c=!u)(ho:o.dst=n_)
  (k:AL P C ops rest Y Q):AL P C ops (o::rest) Y Q:=
 AL.consN0 (u:=!u) (by rw[O];simp) hj (h▸hv) ho k
def R.unyielded {a:Act}{w:World}(hR:R C Y a w){j d:Nat}(hj:((ops[j]?).bind (·.dst))=X d)(hv:look Y.fr d=X (.lit undef)):Go.yielded ops a.tmps j=n_:=by
 obtain⟨Z,hr⟩:=hR;obtain⟨x,O,h⟩:=hr.frame d _ hv;rw[h.lit_inv]at O;simp[Go.yielded,hj,O,undef]
def AL.consU {j d t:Nat}{u:Bool}(O:o.guard=X (j,u))(hj:((ops[j]?).bind (·.dst))=X d)(hv:look Y.fr d=X (.lit undef))(ho:o.dst=X t)(ht:B_ t C)
  (k:AL P C ops rest (Y.put t (.lit undef)) Q):AL P C ops (o::rest) Y Q:=by
 intro a w h;simp only[wpListIn,Region.wanted,O,h.unyielded hj hv];rw[if_neg (by simp)];refine⟨λ_ _=>trivial,k _ _ ?_⟩;obtain⟨Z,hr⟩:=h;rw[ho];exact⟨Z,hr.put (JC ht) (.dat (.lit _))⟩
def AL.consU0 {j d:Nat}{u:Bool}(O:o.guard=X (j,u))(hj:((ops[j]?).bind (·.dst))=X d)(hv:look Y.fr d=X (.lit undef))(ho:o.dst=n_)
  (k:AL P C ops rest Y Q):AL P C ops (o::rest) Y Q:=by
 intro a w h;simp only[wpListIn,Region.wanted,O,h.unyielded hj hv];rw[if_neg (by simp)];refine⟨λ_ _=>trivial,k _ _ ?_⟩;rw[ho];exact h
def Qf.val (h:∀Z a w,RR C Z Y a w->∃x w' φ',(execOp a.eval o).run P w=.ok (.value x) w'/\RR C φ' σ' (a.put o.dst x) w'):Qf P C o Y σ':=by
 intro a w ⟨Z,hr⟩ next Q hn;obtain⟨x,w',φ',he,O⟩:=h Z a w hr;refine⟨λ_ _=>trivial,?_⟩;rw[QiO he];exact hn _ _ ⟨φ',O⟩
def Qf.skp (h:∀Z a w,RR C Z Y a w->∃w' φ',(execOp a.eval o).run P w=.ok .skip w'/\RR C φ' σ' (a.put o.dst undef) w'):Qf P C o Y σ':=by
 intro a w ⟨Z,hr⟩ next Q hn;obtain⟨w',φ',he,O⟩:=h Z a w hr;refine⟨λ_ _=>trivial,?_⟩;rw[QyQ he];exact hn _ _ ⟨φ',O⟩
end
section
variable {P:Program}{C:XC}{Y:St}{o:Oper}
def XT {a b:Nat}(h:Nat.ble (a+1) b=t_):a<b:=JC h
def Qf.same {d:Nat}{v:V}(hd:o.dst=X d)(hn:B_ d C)
  (h:∀Z a w,RR C Z Y a w->∃x,(execOp a.eval o).run P w=.ok (.value x) w/\QW Z (Xp C Z w) w x v):Qf P C o Y (Y.put d v):=by
 refine Qf.val λZ a w O=>?_;obtain⟨x,he,hx⟩:=h Z a w O;exact⟨x,w,Z,he,by rw[hd];exact O.put (XT hn) hx⟩
def Qf.move {x:Operand}{d:Nat}{v:V}(ho:o.op=.move x)(h:o.dst=X d)(O:B_ d C)(hx:Y.opd x=X v):Qf P C o Y (Y.put d v):=
 Qf.same h O λZ a w hr=>⟨a.eval x,by simp[execOp,ho],hr.opd hx⟩
def Qf.assign {x:Operand}{d:Nat}{v:V}(ho:o.op=.assign x)(h:o.dst=X d)(O:B_ d C)(hx:Y.opd x=X v):Qf P C o Y (Y.put d v):=
 Qf.same h O λZ a w hr=>⟨a.eval x,by simp[execOp,ho],hr.opd hx⟩
def Qf.pickT {c x y:Operand}{d:Nat}{t:Bool}{v:V}(ho:o.op=.pick c x y)(hd:o.dst=X d)(hn:B_ d C)(O:Y.opd c=X (.b t))(ht:t=t_)
  (hx:Y.opd x=X v):Qf P C o Y (Y.put d v):=
 Qf.same hd hn λZ a w h=>⟨a.eval x,by simp[execOp,ho,(h.opd O).b_inv,asBool,ht],h.opd hx⟩
def Qf.pickF {c x y:Operand}{d:Nat}{t:Bool}{v:V}(ho:o.op=.pick c x y)(hd:o.dst=X d)(hn:B_ d C)(O:Y.opd c=X (.b t))(ht:t=f_)
  (hx:Y.opd y=X v):Qf P C o Y (Y.put d v):=
 Qf.same hd hn λZ a w h=>⟨a.eval y,by simp[execOp,ho,(h.opd O).b_inv,asBool,ht],h.opd hx⟩
def Quw (op:BinOp)(k:IntKind)(a b:Int):O_ V:=
 match op with|.add=>X (.i k (k.wrap (a+b)))|.sub=>X (.i k (k.wrap (a-b)))|.mul=>X (.i k (k.wrap (a*b)))|.eql=>X (.b (a==b))|.neq=>X (.b (a != b))|.lss=>X (.b (decide (a<b)))|.leq=>X (.b (decide (a<=b)))|.gtr=>X (.b (decide (b<a)))|.geq=>X (.b (decide (b<=a)))|_=>n_
def Qf.bin {op:BinOp}{x y:Operand}{T U d:Nat}{k:IntKind}{m n:Int}{v:V}(ho:o.op=.binOp op T x y U)(hd:o.dst=X d)(hn:B_ d C)
  (hx:Y.opd x=X (.i k m)) (hy:Y.opd y=X (.i k n)) (hv:Quw op k m n=X v):Qf P C o Y (Y.put d v):=by
 refine Qf.same hd hn λZ a w hr=>?_;have h:=(hr.opd hx).i_inv;have O:=(hr.opd hy).i_inv;cases op<;>simp only[Quw,Option.some.injEq,reduceCtorEq]at hv<;>subst hv <;>
  first
  |exact⟨.int k _,by simp[execOp,ho,h,O,eqGuard,binOp,Op.intArith],.dat (.i _ _)⟩
  |exact⟨.bool _,by simp[execOp,ho,h,O,eqGuard,binOp,Op.intCmp],.dat (.b _)⟩
def Qf.divi {op:BinOp}{x y:Operand}{T U d:Nat}{k:IntKind}{m n:Int}{v:V}(ho:o.op=.binOp op T x y U)(hd:o.dst=X d)(hn:B_ d C)
  (hx:Y.opd x=X (.i k m)) (hy:Y.opd y=X (.i k n)) (O:n≠0) (hv:(op=.quo/\v=.i k (k.wrap (m.tdiv n)))\/(op=.rem/\v=.i k (m.tmod n))):Qf P C o Y (Y.put d v):=by
 refine Qf.same hd hn λZ a w h=>?_;have h1:=(h.opd hx).i_inv;have h2:=(h.opd hy).i_inv;rcases hv with⟨rfl,rfl⟩|⟨rfl,rfl⟩ <;>
  exact⟨.int k _,by simp[execOp,ho,h1,h2,eqGuard,binOp,Op.intDiv,O],.dat (.i _ _)⟩
def Qf.not {x:Operand}{T d:Nat}{t:Bool}(ho:o.op=.unOp .not T x)(h:o.dst=X d)(O:B_ d C)(hx:Y.opd x=X (.b t)):
  Qf P C o Y (Y.put d (.b (!t))):=
 Qf.same h O λZ a w hr=>⟨.bool (!t),by simp[execOp,ho,(hr.opd hx).b_inv,Op.unary],.dat (.b _)⟩
def Qf.neg {x:Operand}{T d:Nat}{k:IntKind}{m:Int}(ho:o.op=.unOp .neg T x)(h:o.dst=X d)(O:B_ d C)(hx:Y.opd x=X (.i k m)):
  Qf P C o Y (Y.put d (.i k (k.wrap (0-m)))):=
 Qf.same h O λZ a w hr=>⟨.int k _,by simp[execOp,ho,(hr.opd hx).i_inv,Op.unary,Op.intArith],.dat (.i _ _)⟩
def AW (P:Program)(t:TypeId):O_ Bool:=
 match P.underlying t with|some (.struct _)|some (.array _ _)=>X t_|some _=>X f_|none=>n_
def OD (P:Program)(t:TypeId)(f:Nat):O_ Nat:=
 match P.underlying t with
 |some (.struct fs)=>match fs[f]? with
  |some fl=>match P.info? fl.type with
   |some i=>if i.size=0 then n_ else X fl.offset
   |none=>n_
  |none=>n_
 |_=>n_
def YD (P:Program)(t:TypeId):O_ (TypeId×Nat×Nat):=
 match P.underlying t with
 |some (.slice e)=>match P.info? e with|some i=>X (e,i.size,i.bytes)|none=>n_
 |_=>n_
def QeF (P:Program)(t:TypeId):O_ (Nat×Nat):=
 match P.underlying t with
 |some (.array n e)=>match P.info? e with|some i=>X (n,i.size)|none=>n_
 |_=>n_
def XY (P:Program)(t:TypeId):O_ (L_ V):=
 match P.info? t with
 |some i=>match i.zero with|some z=>X (z.cells.toList.map Fu)|none=>n_
 |none=>n_
def CV (P:Program)(t:TypeId):O_ Nat:=(P.info? t).map (·.size)
def QeG {t:TypeId}{g:Bool}(h:AW P t=X g)(w:World):(isAgg t).run P w=.ok g w:=by
 unfold AW at h;unfold isAgg;split at h<;>simp_all[underlying]
def Qg4 {t:TypeId}{n:Nat}(h:CV P t=X n)(w:World):(sizeOf t).run P w=.ok n w:=by
 unfold CV at h;cases O:P.info? t with|none=>simp[O]at h|some i=>simp[O]at h;simp[sizeOf,typeInfo,O,h]
def V.cells : V->L_ V
 |.agg h=>h|v=>[v]
def QW.oneCell {Z:Nat->O_ Xh}{I:Nat->Prop}{w:World}{x:Value}{v:V}(h:QW Z I w x v)(O:v.one=t_):x.cells=#[x]/\x.oneCell'=t_:=by
 cases h with
 |dat h=>cases h with
  |lit=>cases x<;>first|exact⟨rfl,rfl⟩|simp[V.one]at O
  |_=>first|exact⟨rfl,rfl⟩|simp[V.one]at O
 |_=>first|exact⟨rfl,rfl⟩|simp[V.one]at O
def QW.cells {Z:Nat->O_ Xh}{I:Nat->Prop}{w:World}{x:Value}{v:V}(h:QW Z I w x v)(O:v.one=t_\/∃cs,v=.agg cs):
  x.cells.size=v.cells.length/\∀(j:Nat) y u,x.cells[j]? = X y->v.cells[j]? = X u->QW Z I w y u:=by
 rcases O with O|⟨cs,rfl⟩
 ·have hc:=(h.oneCell O).1;have hvc:v.cells=[v]:=by cases v<;>first|rfl|simp[V.one]at O
  rw[hc,hvc];refine⟨rfl,λj y u hy hu=>?_⟩;cases j with|zero=>simp at hy hu;subst hy;subst hu;exact h|succ j=>simp at hy
 obtain⟨xs,rfl,hs,hr⟩:=h.agg_inv;exact⟨hs,hr⟩
end
def ext (Z:Nat->O_ Xh)(o:Nat)(B:Xh):Nat->O_ Xh:=λk=>if k=o then X B else Z k
def XQ (Z:Nat->O_ Xh)(o:Nat)(B:Xh):ext Z o B o=X B:=by simp[ext]
def Xz {Z:Nat->O_ Xh}{o k:Nat}(B:Xh)(h:k≠o):ext Z o B k=Z k:=by simp[ext,h]
def St.look_set_same (Y:St)(o:Nat)(ob:Ob):look (Y.set o ob).hp o=X ob:=QD _ _ _
def St.look_set_other (Y:St){o k:Nat}(ob:Ob)(h:o≠k):look (Y.set o ob).hp k=look Y.hp k:=QA _ _ h
def XC.slot (C:XC){d:Nat}(h:B_ d C):d<621:=by
 have:=JC h;have:=C.small;omega
section
variable {C:XC}{Z:Nat->O_ Xh}{Y:St}{a:Act}{w:World}
def QeE.set {φ0:Nat->O_ Xh}{b:Nat}{ob ob':Ob}(h:QeE φ0 Z Y.hp)(hb:look Y.hp b=X ob):QeE φ0 Z (Y.set b ob').hp:=h.sub λo ob2 O=>by
 by_cases e:o=b
 ·subst e;exact⟨_,hb⟩
 rw[Y.look_set_other _ (Ne.symm e)]at O;exact⟨_,O⟩
def RR.none_of_look (h:RR C Z Y a w){o:Nat}(ho:look Y.hp o=n_):Z o=n_:=by
 cases hb:Z o with|none=>rfl|some B=>obtain⟨ob,O⟩:=h.dom o B hb;rw[ho]at O;cases O
def QcT {b cap z k:Nat}(h:({ b:=b,cap:=cap,z:=z }:Xh).has k):k=b:=by
 rcases h with h|h
 ·exact h
 cases h
def RR.imm_alloc (h:RR C Z Y a w)(o cap z:Nat)(obj:Obj)(hn:Z o=n_):
  ∀k,Xp C Z w k->Xp C (ext Z o ⟨w.heap.size,cap,z,[],0⟩) (w.alloc obj) k/\(w.alloc obj).heap[k]? = w.heap[k]? := by
 intro k ⟨h1,h2,h3⟩;refine⟨⟨by simp;omega,h2,λo' B O=>?_⟩,Below.heap_alloc w obj k h1⟩;by_cases ho:o'=o
 ·subst ho;rw[XQ]at O;cases O;intro hh;have:=QcT hh;omega
 rw[Xz _ ho]at O;exact h3 o' B O
def RR.mono_ext (h:RR C Z Y a w){o:Nat}(B:Xh)(hn:Z o=n_):∀o' B',Z o'=X B'->ext Z o B o'=X B':=by
 intro o' B' O;rw[Xz _ (λe=>by subst e;rw[hn]at O;cases O)];exact O
def RR.alloc (h:RR C Z Y a w){o cap z:Nat}(ho:look Y.hp o=n_)(hlt:o<621){ob:Ob}{obj:Obj}
  (hrep:KH (ext Z o ⟨w.heap.size,cap,z,[],0⟩) (Xp C (ext Z o ⟨w.heap.size,cap,z,[],0⟩) (w.alloc obj)) (w.alloc obj) ⟨w.heap.size,cap,z,[],0⟩ ob):
  RR C (ext Z o ⟨w.heap.size,cap,z,[],0⟩) (Y.set o ob) a (w.alloc obj):=by
 have hn:=h.none_of_look ho;have hI:=h.imm_alloc o cap z obj hn;have hm:=h.mono_ext ⟨w.heap.size,cap,z,[],0⟩ hn;refine⟨h.os,h.tape,h.output,by have:=h.size;simp;omega,λk h1 h2=>?_,?_,?_,?_,?_,⟨?_,λo' ob' B hge ho' O=>by rw[Xz _ (by omega)];exact h.stay.2 o' ob' B hge (by rwa[Y.look_set_other _ (by omega)]at ho') O⟩,h.tmps,h.defers.mono hI,?_,?_⟩
 ·rw[Below.heap_alloc w obj k (Ez h1 h.size)];exact h.kept k h1 h2
 ·intro o1 o2 B1 B2 k h1 h2 b1 b2;by_cases e1:o1=o<;>by_cases e2:o2=o
  ·rw[e1,e2]
  ·subst e1;rw[XQ]at h1;cases h1;rw[Xz _ e2]at h2;have:=(h.lt o2 B2 k h2 b2).1;have:=QcT b1;omega
  ·subst e2;rw[XQ]at h2;cases h2;rw[Xz _ e1]at h1;have:=(h.lt o1 B1 k h1 b1).1;have:=QcT b2;omega
  rw[Xz _ e1]at h1;rw[Xz _ e2]at h2;exact h.inj o1 o2 B1 B2 k h1 h2 b1 b2
 ·intro o' B O;by_cases e:o'=o
  ·subst e;exact⟨ob,Y.look_set_same _ _⟩
  rw[Xz _ e]at O;obtain⟨ob',h'⟩:=h.dom o' B O;exact⟨ob',by rw[Y.look_set_other _ (Ne.symm e)];exact h'⟩
 ·intro o' B k O hk;by_cases e:o'=o
  ·subst e;rw[XQ]at O;cases O;rw[QcT hk];exact⟨by simp,λhlt=>absurd h.size (by omega)⟩
  rw[Xz _ e]at O;have:=h.lt o' B k O hk;exact⟨by simp;omega,this.2⟩
 ·intro o' B k O hk hlt;by_cases e:o'=o
  ·subst e;rw[XQ]at O;cases O;rw[QcT hk];exact h.size
  rw[Xz _ e]at O;exact h.new o' B k O hk hlt
 ·intro o' B hge O;rw[Xz _ (by omega)]at O;exact h.stay.1 o' B hge O
 ·intro t v hv;obtain⟨x,hx,hr⟩:=h.frame t v hv;exact⟨x,hx,hr.mono hm hI⟩
 intro o' ob' ho';by_cases e:o'=o
 ·subst e;rw[Y.look_set_same]at ho';cases ho';exact .inl ⟨_,XQ _ _ _,hrep⟩
 rw[Y.look_set_other _ (Ne.symm e)]at ho';rcases h.heap o' ob' ho' with⟨B,O,hr⟩|⟨h1,h2⟩
 ·exact .inl ⟨B,by rw[Xz _ e];exact O,hr.mono hm hI λk hk=>Below.heap_alloc w obj _ (h.lt o' B k O hk).1⟩
 exact .inr ⟨by rw[Xz _ e];exact h1,h2⟩
def RR.change (h:RR C Z Y a w){o:Nat}{B:Xh}(hB:Z o=X B){B':Xh}(hb:B'.b=B.b/\B'.cap=B.cap/\B'.z=B.z/\B'.off=B.off)(hst:621<=o->B'=B){ob:Ob}{w':World}(ho:w'.os=w.os)(ht:w'.tape=w.tape)(hu:w'.output=w.output)
  (hs:w.heap.size<=w'.heap.size) (hk:∀k,k<w.heap.size->¬B.has k->w'.heap[k]? = w.heap[k]?) (hB':∀k,B'.has k->k<w'.heap.size/\(B.has k\/w.heap.size<=k))
  (hrep:KH (ext Z o B') (Xp C (ext Z o B') w') w' B' ob):RR C (ext Z o B') (Y.set o ob) a w':=by
 have hI:∀k,Xp C Z w k->Xp C (ext Z o B') w' k/\w'.heap[k]? = w.heap[k]? := λk hk'=>by
  refine⟨⟨Ez hk'.1 hs,hk'.2.1,λo' B1 O=>?_⟩,hk k hk'.1 (hk'.2.2 o B hB)⟩;by_cases e:o'=o
  ·subst e;rw[XQ]at O;cases O;intro hh;rcases(hB' k hh).2 with h2|h2
   ·exact hk'.2.2 o' B hB h2
   have:=hk'.1;omega
  rw[Xz _ e]at O;exact hk'.2.2 o' B1 O
 have hrepV:∀{x:Value} {v:V},QW Z (Xp C Z w) w x v->QW (ext Z o B') (Xp C (ext Z o B') w') w' x v:=by
  intro x v hr
  induction hr with
  |dat d=>exact .dat (d.mono hI)|own0 p=>exact .own0 p|own p n B1 O hn=>
   by_cases e:p=o
   ·subst e;rw[hB]at O;cases O;have:=QW.own (Z:=ext Z p B') (I:=Xp C (ext Z p B') w') (w:=w') p n B' (XQ _ _ _) (by rw[hb.2.1];exact hn);rwa[hb.1,hb.2.1,hb.2.2.2]at this
   exact .own p n B1 (by rw[Xz _ e];exact O) hn
  |loc p i d B1 O=>
   by_cases e:p=o
   ·subst e;rw[hB]at O;cases O;have:=QW.loc (Z:=ext Z p B') (I:=Xp C (ext Z p B') w') (w:=w') p i d B' (XQ _ _ _);rwa[hb.1,hb.2.2.1,hb.2.2.2]at this
   exact .loc p i d B1 (by rw[Xz _ e];exact O)
  |map p B1 O=>
   by_cases e:p=o
   ·subst e;rw[hB]at O;cases O;have:=QW.map (Z:=ext Z p B') (I:=Xp C (ext Z p B') w') (w:=w') p B' (XQ _ _ _);rwa[hb.1]at this
   exact .map p B1 (by rw[Xz _ e];exact O)
  |agg xs cs hs _ ih=>exact .agg xs cs hs ih|tup xs cs hs _ ih=>exact .tup xs cs hs ih|ifc t x v _ ih=>exact .ifc t x v ih|clo fn xs ys vs us O h2 _ _ ih1 ih2=>exact .clo fn xs ys vs us O h2 ih1 ih2
 have old:∀o' B1,o'≠o->Z o'=X B1->∀k,B1.has k->w'.heap[k]? = w.heap[k]? := λo' B1 hne O k hk1=>
  hk k (h.lt o' B1 k O hk1).1 λh2=>hne (h.inj o' o B1 B k O hB hk1 h2)
 refine⟨ho.trans h.os,ht.trans h.tape,hu.trans h.output,Yq h.size hs,λk O h2=>?_,?_,?_,?_,?_,⟨?_,λo' ob' B1 hge ho' O=>by
  by_cases e:o'=o
  ·subst e;rw[XQ,hst hge];have:=h.stay.1 o' B hge hB;rw[O]at this;exact this.symm
  rw[Xz _ e];exact h.stay.2 o' ob' B1 hge (by rwa[Y.look_set_other _ (Ne.symm e)]at ho') O⟩,h.tmps,h.defers.mono hI,?_,?_⟩
 ·refine(hk k (Ez O h.size) λhh=>h2 ((h.lt o B k hB hh).2 O)).trans (h.kept k O h2)
 ·intro o1 o2 B1 B2 k O h2 b1 b2;by_cases e1:o1=o<;>by_cases e2:o2=o
  ·rw[e1,e2]
  ·subst e1;rw[XQ]at O;cases O;rw[Xz _ e2]at h2;rcases(hB' k b1).2 with h3|h3
   ·exact h.inj o1 o2 B B2 k hB h2 h3 b2
   have:=(h.lt o2 B2 k h2 b2).1;omega
  ·subst e2;rw[XQ]at h2;cases h2;rw[Xz _ e1]at O;rcases(hB' k b2).2 with h3|h3
   ·exact h.inj o1 o2 B1 B k O hB b1 h3
   have:=(h.lt o1 B1 k O b1).1;omega
  rw[Xz _ e1]at O;rw[Xz _ e2]at h2;exact h.inj o1 o2 B1 B2 k O h2 b1 b2
 ·intro o' B1 O;by_cases e:o'=o
  ·subst e;exact⟨ob,Y.look_set_same _ _⟩
  rw[Xz _ e]at O;obtain⟨ob',h'⟩:=h.dom o' B1 O;exact⟨ob',by rw[Y.look_set_other _ (Ne.symm e)];exact h'⟩
 ·intro o' B1 k O hk1;by_cases e:o'=o
  ·subst e;rw[XQ]at O;cases O;refine⟨(hB' k hk1).1,λhlt=>?_⟩;rcases(hB' k hk1).2 with h3|h3
   ·exact(h.lt o' B k hB h3).2 hlt
   exact absurd h.size (by omega)
  rw[Xz _ e]at O;have:=h.lt o' B1 k O hk1;exact⟨by omega,this.2⟩
 ·intro o' B1 k O hk1 hlt;by_cases e:o'=o
  ·subst e;rw[XQ]at O;cases O;rcases(hB' k hk1).2 with h3|h3
   ·exact h.new o' B k hB h3 hlt
   have:=h.size;omega
  rw[Xz _ e]at O;exact h.new o' B1 k O hk1 hlt
 ·intro o' B1 hge O;by_cases e:o'=o
  ·subst e;rw[XQ]at O;cases O;rw[hst hge];exact h.stay.1 o' B hge hB
  rw[Xz _ e]at O;exact h.stay.1 o' B1 hge O
 ·intro t v hv;obtain⟨x,hx,hr⟩:=h.frame t v hv;exact⟨x,hx,hrepV hr⟩
 intro o' ob' ho';by_cases e:o'=o
 ·subst e;rw[Y.look_set_same]at ho';cases ho';exact .inl ⟨B',XQ _ _ _,hrep⟩
 rw[Y.look_set_other _ (Ne.symm e)]at ho';rcases h.heap o' ob' ho' with⟨B1,O,hr⟩|⟨O,h2⟩
 ·refine .inl ⟨B1,by rw[Xz _ e];exact O,?_⟩;cases ob' with
  |var vs=>
   obtain⟨cs,E,a1,a2,a0,a3⟩:=hr;exact⟨cs,E,(old o' B1 e O _ B1.self).trans a1,a2,a0,λj x v hx hv=>hrepV (a3 j x v hx hv)⟩
  |lp l K vs q=>
   obtain⟨tmps,D,rfl,a1,a2,a3,a4⟩:=hr;exact⟨tmps,D,rfl,a1,(old o' B1 e O _ B1.self).trans a2,a3,λj x v hx hv=>hrepV (a4 j x v hx hv)⟩
  |arr z rs=>exact YW.mono hI (old o' B1 e O _ B1.self) hr|map l=>exact EA.mono hI (old o' B1 e O _ B1.self) hr|grp z l lk=>exact UX.mono hI (old o' B1 e O) hr|mapX bm clock L l=>exact Ft.mono hI (old o' B1 e O _ B1.self) hr|itr bm since seen cur=>exact Qc0.mono (old o' B1 e O _ B1.self) hr|itr0=>obtain⟨s,c,h3⟩:=hr;exact⟨s,c,(old o' B1 e O _ B1.self).trans h3.1,h3.2⟩
  |tbl A z rs=>exact Ch.mono hI (old o' B1 e O) hr|nst x v=>exact Qc1.mono (old o' B1 e O) hr|scr D H=>exact Qc2.mono (old o' B1 e O) hr
 exact .inr ⟨by rw[Xz _ e];exact O,h2⟩
def Qg5 {Z:Nat->O_ Xh}{o:Nat}{B:Xh}(h:Z o=X B):ext Z o B=Z:=by
 funext k;by_cases e:k=o
 ·subst e;rw[XQ,h]
 rw[Xz _ e]
def RR.write (h:RR C Z Y a w){o:Nat}{B:Xh}(hB:Z o=X B){ob:Ob}{w':World}(ho:w'.os=w.os)(ht:w'.tape=w.tape)(hu:w'.output=w.output)
  (hs:w'.heap.size=w.heap.size) (hk:∀k,k≠B.b->w'.heap[k]? = w.heap[k]?) (O:KH Z (Xp C Z w') w' B ob):RR C Z (Y.set o ob) a w':=by
 have:=h.change hB (B':=B) ⟨rfl,rfl,rfl,rfl⟩ (λ_=>rfl) (ob:=ob) (w':=w') ho ht hu (by omega) (λk _ hne=>hk k λe=>hne (.inl e)) (λk hk=>⟨by rw[hs];exact(h.lt o B k hB hk).1,.inl hk⟩) (by rw[Qg5 hB];exact O);rwa[Qg5 hB]at this
def RR.block (h:RR C Z Y a w){o:Nat}{B:Xh}(hB:Z o=X B){ob:Ob}(ho:look Y.hp o=X ob):KH Z (Xp C Z w) w B ob:=by
 rcases h.heap o ob ho with⟨B',O,hr⟩|⟨hn,_⟩
 ·rw[hB]at O;cases O;exact hr
 rw[hn]at hB;cases hB
end
def XG.const {I:Nat->Prop}{w:World}(x:Value):XG I w x (Fu x):=by
 cases x<;>first|exact .b _|exact .i _ _|exact .s _|exact .lit _
def V.plain : V->Bool
 |.b _=>t_|.i _ _=>t_|.s _=>t_|.lit _=>t_|.J=>t_|.sl _ _=>t_|.sln _ _ _=>t_|.e0=>t_|.ro _=>t_|_=>f_
def QW.plain {Z:Nat->O_ Xh}{I:Nat->Prop}{w:World}{x:Value}{v:V}(h:QW Z I w x v)(O:v.plain=t_):XG I w x v:=by
 cases h with|dat h=>exact h|_=>cases O
def QW.aggPlain {Z:Nat->O_ Xh}{I:Nat->Prop}{w:World}{xs:Array Value}{h:L_ V}(hs:xs.size=h.length)(hr:∀(j:Nat) x v,xs[j]? = X x->h[j]? = X v->QW Z I w x v)(hv:h.all V.plain=t_):XG I w (.agg xs) (.agg h):=by
 rw[XS]at hv;exact .agg xs h hs λj x v hx O=>(hr j x v hx O).plain (hv v (XB O))
def V.dat : V->Bool
 |.own _ _=>f_|.loc _ _ _=>f_|.map _=>f_|.clo _ _ _=>f_|.agg h=>h.all V.plain|.tup _=>f_|.ifc _ x=>x.dat|_=>t_
def QW.toDat {Z:Nat->O_ Xh}{I:Nat->Prop}{w:World}{x:Value}{v:V}(h:QW Z I w x v)(O:v.dat=t_):XG I w x v:=by
 induction h with|dat h=>exact h|ifc t x v h ih=>exact .ifc t x v (ih (by simpa[V.dat] using O))|agg xs cs hs hr _=>exact QW.aggPlain hs hr O|_=>simp[V.dat]at O
section
variable {P:Program}{C:XC}{Y:St}{o:Oper}
def Qf.alloc {T d:Nat}{zs:L_ V}(ho:o.op=.alloc T)(hd:o.dst=X d)(hn:B_ d C)(h:XY P T=X zs)(hf:look Y.hp d=n_):
  Qf P C o Y ((Y.set d (.var zs)).put d (.loc d 0 0)):=by
 refine Qf.val λZ a w hr=>?_;unfold XY at h;split at h
 ·rename_i i hi;split at h
  ·rename_i z hzz;cases h;refine⟨.pointer (X ⟨w.heap.size,0,n_⟩),w.alloc (.cells z.cells T),ext Z d ⟨w.heap.size,1,0,[],0⟩,?_,?_⟩
   ·simp[execOp,ho,Instr.alloc,zeroValue,typeInfo,hi,hzz,newVar,newRow]
   have O:=(hr.alloc (cap:=1) (z:=0) hf (C.slot hn) (ob:=.var (z.cells.toList.map Fu)) (obj:=.cells z.cells T)
    ⟨z.cells,T,heap_alloc_new w _,by simp,rfl,λj x v hx hv=>by
     simp[hx]at hv;subst hv;exact .dat (XG.const _)⟩)
   rw[hd];refine O.put (XT hn) ?_;have:=QW.loc (Z:=ext Z d ⟨w.heap.size,1,0,[],0⟩) (I:=Xp C (ext Z d ⟨w.heap.size,1,0,[],0⟩) (w.alloc (.cells z.cells T))) (w:=w.alloc (.cells z.cells T)) d 0 0 _ (XQ _ _ _);simpa using this
  cases h
 cases h
def Qf.box {T d:Nat}{x:Operand}{v:V}(ho:o.op=.box T x)(hd:o.dst=X d)(hn:B_ d C)(hx:Y.opd x=X v)(h1:v.one=t_\/∃cs,v=.agg cs)
  (hf:look Y.hp d=n_):Qf P C o Y ((Y.set d (.var v.cells)).put d (.loc d 0 0)):=by
 refine Qf.val λZ a w O=>?_;have hv:=O.opd hx;obtain⟨hs,hc⟩:=hv.cells h1;refine⟨.pointer (X ⟨w.heap.size,0,n_⟩),w.alloc (.cells (a.eval x).cells T),ext Z d ⟨w.heap.size,1,0,[],0⟩,?_,?_⟩
 ·simp[execOp,ho,Instr.box,newVar,newRow]
 have hN:=O.none_of_look hf;have h:=(O.alloc (cap:=1) (z:=0) hf (C.slot hn) (ob:=.var v.cells) (obj:=.cells (a.eval x).cells T)
  ⟨(a.eval x).cells,T,heap_alloc_new w _,hs,rfl,λj x v hx hv=>(hc j x v hx hv).mono (O.mono_ext _ hN) (O.imm_alloc d 1 0 _ hN)⟩)
 rw[hd];refine h.put (XT hn) ?_;have:=QW.loc (Z:=ext Z d ⟨w.heap.size,1,0,[],0⟩) (I:=Xp C (ext Z d ⟨w.heap.size,1,0,[],0⟩) (w.alloc (.cells (a.eval x).cells T))) (w:=w.alloc (.cells (a.eval x).cells T)) d 0 0 _ (XQ _ _ _);simpa using this
def MY {T:Nat}{w:World}{p:Addr}{x:Value}(O:AW P T=X f_)(h:w.cell? p=X x):(Instr.loadAt T (.pointer (X p))).run P w=.ok x w:=by
 simp[Instr.loadAt,Instr.sureAddr,loadVar,QeG O,h]
def QaZ {T n:Nat}{w:World}{p:Addr}(c:Nat->Value)(O:AW P T=X t_)(hs:CV P T=X n)(h:∀j,j<n->w.cell? (p.add j)=X (c j)):
  (Instr.loadAt T (.pointer (X p))).run P w=.ok (.agg ((List.range n).map c).toArray) w:=by
 simp only[Instr.loadAt,Instr.sureAddr,loadVar,Xl,Xx,Xo,QeG O,if_true,Qg4 hs];rw[run_loadCells w p n c h];simp
def Qf.load1L {T d b off:Nat}{x:Operand}{O:L_ V}{v:V}(ho:o.op=.load T x)(hd:o.dst=X d)(hn:B_ d C)(hx:Y.opd x=X (.loc b 0 off))
  (hb:look Y.hp b=X (.var O)) (hg:AW P T=X f_) (hv:O[off]? = X v):Qf P C o Y (Y.put d v):=by
 refine Qf.same hd hn λZ a w hr=>?_;obtain⟨B,hB,he⟩:=(hr.opd hx).loc_inv;obtain⟨xs,E,h1,h2,h0,h3⟩:=hr.block hB hb;have h:off<xs.size:=by rw[h2];exact(Xf.1 hv).1
 have hc:w.cell? ⟨B.b,B.off+(0*B.z+off),n_⟩=X xs[off]:=by simp[World.cell?,h1,h,h0]
 refine⟨xs[off],?_,h3 off _ v (by simp[h]) hv⟩;simp only[execOp,ho,he,Xl,MY hg hc,Xo,Xx]
def Qf.loadAL {T d b off n:Nat}{x:Operand}{O vs:L_ V}(ho:o.op=.load T x)(hd:o.dst=X d)(hn:B_ d C)(hx:Y.opd x=X (.loc b 0 off))
  (hb:look Y.hp b=X (.var O)) (hg:AW P T=X t_) (hs:CV P T=X n) (h:Nat.ble (off+n) O.length=t_) (hv:(O.drop off).take n=vs):Qf P C o Y (Y.put d (.agg vs)):=by
 refine Qf.same hd hn λZ a w hr=>?_;have h:=JC h;obtain⟨B,hB,he⟩:=(hr.opd hx).loc_inv;obtain⟨xs,E,h1,h2,h0,h3⟩:=hr.block hB hb;have hc:∀j,j<n->w.cell? ((⟨B.b,B.off+(0*B.z+off),n_⟩:Addr).add j)=X (xs.getD (off+j) undef):=by
  intro j hj;have:off+j<xs.size:=by omega
  simp[Addr.add_lit,World.cell?,h1,Array.getD,this,h0]
 refine⟨.agg ((List.range n).map λj=>xs.getD (off+j) undef).toArray,by simp only[execOp,ho,he,Xl,QaZ _ hg hs hc,Xo,Xx],.agg _ _ ?_ ?_⟩
 ·subst hv;simp;omega
 intro j y u hy hu;subst hv;simp only[CS,Yj,Yo,Xf,QeC,Qcs]at hy;obtain⟨_,⟨hj,rfl⟩,rfl⟩:=hy;have hlt:off+j<xs.size:=by omega
 refine h3 (off+j) _ u (by simp[Array.getD,hlt]) ?_;rwa[Kd,if_pos hj,UQ]at hu
def YW.cell {I:Nat->Prop}{w:World}{B:Xh}{z:Nat}{rs:L_ (L_ V)}(h:YW I w B z rs){i off:Nat}{r:L_ V}{v:V}(hi:rs[i]? = X r)(hv:r[off]? = X v):
  ∃y,w.cell? ⟨B.b,B.off+(i*B.z+off),n_⟩=X y/\XG I w y v:=by
 obtain⟨hz,_,_,xs,E,O,h2,h3⟩:=h;obtain⟨y,hy,hr⟩:=h3 i r hi off v hv;exact⟨y,by simp[World.cell?,O,hz,hy],hr⟩
def Qf.load1A {T d b i off z:Nat}{x:Operand}{rs:L_ (L_ V)}{r:L_ V}{v:V}(ho:o.op=.load T x)(hd:o.dst=X d)(hn:B_ d C)(hx:Y.opd x=X (.loc b i off))
  (hb:look Y.hp b=X (.arr z rs)) (hg:AW P T=X f_) (hi:rs[i]? = X r) (hv:r[off]? = X v):Qf P C o Y (Y.put d v):=by
 refine Qf.same hd hn λZ a w h=>?_;obtain⟨B,O,he⟩:=(h.opd hx).loc_inv;obtain⟨y,hc,hy⟩:=YW.cell (h.block O hb) hi hv;exact⟨y,by simp[execOp,ho,he,MY hg hc],.dat hy⟩
def Qf.loadAA {T d b i off z n:Nat}{x:Operand}{rs:L_ (L_ V)}{r vs:L_ V}(ho:o.op=.load T x)(hd:o.dst=X d)(hn:B_ d C)(hx:Y.opd x=X (.loc b i off))
  (hb:look Y.hp b=X (.arr z rs)) (hg:AW P T=X t_) (hs:CV P T=X n) (hi:rs[i]? = X r) (O:Nat.ble (off+n) r.length=t_) (hv:(r.drop off).take n=vs):
  Qf P C o Y (Y.put d (.agg vs)):=by
 refine Qf.same hd hn λZ a w hr=>?_;have O:=JC O;obtain⟨B,hB,he⟩:=(hr.opd hx).loc_inv;have hA:=hr.block hB hb;have key:∀j,j<n->∃y,w.cell? ⟨B.b,B.off+(i*B.z+off)+j,n_⟩=X y/\∀v,r[off+j]? = X v->XG (Xp C Z w) w y v:=by
  intro j h;have:off+j<r.length:=by omega
  obtain⟨y,hc,hy⟩:=YW.cell hA hi (Qv this);exact⟨y,by simpa[OA] using hc,λv hv=>by rw[Qv this]at hv;exact Option.some.inj hv▸hy⟩
 have hc:∀j,j<n->w.cell? ((⟨B.b,B.off+(i*B.z+off),n_⟩:Addr).add j)=X ((w.cell? ⟨B.b,B.off+(i*B.z+off)+j,n_⟩).getD undef):=by
  intro j h;obtain⟨y,h1,_⟩:=key j h;simp[Addr.add_lit,h1]
 refine⟨.agg ((List.range n).map λj=>(w.cell? ⟨B.b,B.off+(i*B.z+off)+j,n_⟩).getD undef).toArray,by simp only[execOp,ho,he,Xl,QaZ _ hg hs hc,Xo,Xx],.agg _ _ ?_ ?_⟩
 ·subst hv;simp;omega
 intro j y u hy hu;subst hv;simp only[CS,Yj,Yo,Xf,QeC,Qcs]at hy;obtain⟨_,⟨h,rfl⟩,rfl⟩:=hy;obtain⟨y,h1,h2⟩:=key j h;rw[h1];refine .dat (h2 u ?_);rw[Kd,if_pos h,UQ]at hu;exact hu
def Qf.load1R {T d:Nat}{x:Operand}{v:V}{O:L_ V}(ho:o.op=.load T x)(h:o.dst=X d)(hn:B_ d C)(hx:Y.opd x=X (.ro O))
  (hg:AW P T=X f_) (hv:O[0]? = X v):Qf P C o Y (Y.put d v):=by
 refine Qf.same h hn λZ a w hr=>?_;obtain⟨b,off,he,hI,_,c,hc,h⟩:=(hr.opd hx).ro_inv;have:=hc 0 ((Xf.1 hv).1);exact⟨c 0,by simp only[execOp,ho,he,Xl,MY hg (by simpa using this),Xo,Xx],.dat (h 0 v hv)⟩
def Qf.loadAR {T d n:Nat}{x:Operand}{vs O:L_ V}(ho:o.op=.load T x)(hd:o.dst=X d)(hn:B_ d C)(hx:Y.opd x=X (.ro O))
  (hg:AW P T=X t_) (hs:CV P T=X n) (h:Nat.ble n O.length=t_) (hv:O.take n=vs):Qf P C o Y (Y.put d (.agg vs)):=by
 refine Qf.same hd hn λZ a w hr=>?_;have h:=JC h;obtain⟨b,off,he,hI,_,c,hc,hd⟩:=(hr.opd hx).ro_inv;have hc':∀j,j<n->w.cell? ((⟨b,off,n_⟩:Addr).add j)=X (c j):=λj hj=>by rw[Addr.add_lit];exact hc j (by omega)
 refine⟨.agg ((List.range n).map c).toArray,by simp only[execOp,ho,he,Xl,QaZ _ hg hs hc',Xo,Xx],.agg _ _ ?_ ?_⟩
 ·subst hv;simp;omega
 intro j y u hy hu;subst hv;simp only[CS,Yj,Yo,Xf,QeC,Qcs]at hy;obtain⟨_,⟨hj,rfl⟩,rfl⟩:=hy;refine .dat (hd j u ?_);rw[Kd,if_pos hj]at hu;exact hu
def QfD {T n g off:Nat}{w:World}{x:Value}{h:Array Value}{E:TypeId}(hs:CV P T=X n)(hx:x.cells.size=n)(hg:w.heap[g]? = X (.cells h E (0,0)))
  (O:off+n<=h.size) (h1:∀u∈x.cells.toList,u.oneCell'=t_):
  (Instr.storeAt T (.pointer (X ⟨g,off,n_⟩)) x).run P w=.ok () (w.setRow g (h.toList.take off++x.cells.toList++h.toList.drop (off+n)).toArray):=by
 have:=run_storeCells_at P g off E x.cells.toList 0 h w hg (by simpa[hx] using O) h1;simp[Instr.storeAt,Instr.sureAddr,storeVar,Qg4 hs,hx,this]
def WW (r:L_ V)(off:Nat)(vs:L_ V):L_ V:=r.take off++vs++r.drop (off+vs.length)
def QW.cells_one {Z:Nat->O_ Xh}{I:Nat->Prop}{w:World}{x:Value}{v:V}(h:QW Z I w x v)(hv:v.one=t_\/∃cs,v=.agg cs)(h1:v.cells.all V.one=t_):
  ∀u∈x.cells.toList,u.oneCell'=t_:=by
 intro u hu;obtain⟨hs,hc⟩:=h.cells hv;obtain⟨j,hj,rfl⟩:=List.getElem_of_mem hu;have O:j<v.cells.length:=by rw[<-hs];simpa using hj
 have hj2:j<x.cells.size:=by simpa using hj
 have h3:=hc j x.cells[j] v.cells[j] (AV hj2) (Qv O);have h4:(v.cells[j]).one=t_:=by
  rw[XS]at h1;exact h1 _ (Xc _)
 simpa using (h3.oneCell h4).2
def Qf.storeL {T b off n:Nat}{x y:Operand}{cs cs':L_ V}{v:V}(ho:o.op=.store T x y)(hd:o.dst=n_)(hx:Y.opd x=X (.loc b 0 off))
  (hb:look Y.hp b=X (.var cs)) (hy:Y.opd y=X v) (h1:v.one=t_\/∃cs,v=.agg cs) (hs:CV P T=X n) (hl:v.cells.length=n) (hall:v.cells.all V.one=t_)
  (hle:Nat.ble (off+n) cs.length=t_) (he:WW cs off v.cells=cs'):Qf P C o Y (Y.set b (.var cs')):=by
 refine Qf.skp λZ a w hr=>?_;subst he;have hle:=JC hle;obtain⟨B,hB,he⟩:=(hr.opd hx).loc_inv;obtain⟨xs,E,e1,e2,e0,e3⟩:=hr.block hB hb;rw[e0]at he;have hv:=hr.opd hy;obtain⟨hcs,hc⟩:=hv.cells h1;have hsz:(a.eval y).cells.size=n:=by rw[hcs,hl]
 have hrun:=QfD (off:=off) hs hsz e1 (by omega) (hv.cells_one h1 hall);refine⟨w.setRow B.b (xs.toList.take off++(a.eval y).cells.toList++xs.toList.drop (off+n)).toArray,Z,?_,?_⟩
 ·simp only[execOp,ho,he,Xl,Ij,Gp,hrun,Xo,Xx]
 rw[hd];have hl1:(xs.toList.take off++(a.eval y).cells.toList++xs.toList.drop (off+n)).length=xs.size:=by simp;omega
 refine hr.write hB rfl rfl rfl (by simp) (λk hk=>setRow_other w B.b k _ hk) ⟨_,E,setRow_heap w B.b xs _ E _ e1,?_,e0,?_⟩
 ·simp only[Qbi,hl1];simp[WW,hl];omega
 have hI:∀k,Xp C Z w k->Xp C Z (w.setRow B.b (xs.toList.take off++(a.eval y).cells.toList++xs.toList.drop (off+n)).toArray) k/\
   (w.setRow B.b (xs.toList.take off++(a.eval y).cells.toList++xs.toList.drop (off+n)).toArray).heap[k]? = w.heap[k]?:=
  λk hk=>⟨⟨by simpa using hk.1,hk.2⟩,setRow_other w B.b k _ λe=>hk.2.2 b B hB (.inl e)⟩
 intro j y' u O hu;refine QW.mono (λ_ _ h=>h) hI ?_;simp only[CS,WW]at O hu;by_cases hj:j<off
 ·rw[Kh,Jh (by simp;omega),Kd,if_pos hj]at O hu;exact e3 j y' u (by simpa using O) hu
 by_cases hj2:j<off+n
 ·rw[Jh (by simp;omega),Kc (by simp;omega)]at O hu;have el:off-min off cs.length=0:=by omega
  have el2:off-min off xs.size=0:=by omega
  refine hc (j-off) y' u ?_ ?_
  ·rw[<-O];simp;congr 1;omega
  rw[<-hu];simp;congr 1;omega
 rw[Kc (by simp;omega)]at O hu;refine e3 j y' u ?_ ?_
 ·rw[<-O];simp;congr 1;omega
 rw[<-hu];simp;congr 1;omega
end
section
variable {P:Program}{C:XC}{Y:St}{o:Oper}
def QvQ {i O z j off n:Nat}(h:O≠i)(hj:j<z)(hn:off+n<=z):O*z+j<i*z+off\/i*z+off+n<=O*z+j:=by
 rcases Nat.lt_or_gt_of_ne h with h|h
 ·left;have:(O+1)*z<=i*z:=Jr z h;rw[Je]at this;omega
 right;have:(i+1)*z<=O*z:=Jr z h;rw[Je]at this;omega
def Qf.storeAV {T b i off n z:Nat}{x y:Operand}{rs rs':L_ (L_ V)}{r:L_ V}{v:V}(ho:o.op=.store T x y)(hd:o.dst=n_)(hx:Y.opd x=X (.loc b i off))
  (hb:look Y.hp b=X (.arr z rs)) (hi:rs[i]? = X r) (hy:∀Z a w,RR C Z Y a w->QW Z (Xp C Z w) w (a.eval y) v) (h1:v.one=t_\/∃cs,v=.agg cs) (hs:CV P T=X n) (hl:v.cells.length=n)
  (hall:v.cells.all V.one=t_) (hdat:v.cells.all V.dat=t_) (hle:Nat.ble (off+n) z=t_) (he:rs.set i (WW r off v.cells)=rs'):Qf P C o Y (Y.set b (.arr z rs')):=by
 refine Qf.skp λZ a w hr=>?_;subst he;have hle:=JC hle;obtain⟨B,hB,he⟩:=(hr.opd hx).loc_inv;obtain⟨hz,hrl,hok,xs,E,e1,e2,e3⟩:=hr.block hB hb;subst hz;have hv:=hy Z a w hr;obtain⟨hcs,hc⟩:=hv.cells h1;have hsz:(a.eval y).cells.size=n:=by rw[hcs,hl]
 have hilt:i<rs.length:=(Xf.1 hi).1;have hrlen:r.length=B.z:=(hok r (XB hi)).1;have hbig:B.off+(i*B.z+B.z)<=xs.size:=by
  refine Yq ?_ e2;have:(i+1)*B.z<=B.cap*B.z:=Jr _ (by omega);rw[Je]at this;omega
 have hrun:=QfD (off:=B.off+(i*B.z+off)) hs hsz e1 (by omega) (hv.cells_one h1 hall);refine⟨w.setRow B.b (xs.toList.take (B.off+(i*B.z+off))++(a.eval y).cells.toList++xs.toList.drop (B.off+(i*B.z+off)+n)).toArray,Z,?_,?_⟩
 ·simp only[execOp,ho,he,Xl,hrun,Xo,Xx]
 rw[hd];have hl1:(xs.toList.take (B.off+(i*B.z+off))++(a.eval y).cells.toList++xs.toList.drop (B.off+(i*B.z+off)+n)).length=xs.size:=by simp;omega
 refine hr.write hB rfl rfl rfl (by simp) (λk hk=>setRow_other w B.b k _ hk) ⟨rfl,by simpa using hrl,?_,_,E,setRow_heap w B.b xs _ E _ e1,?_,?_⟩
 ·intro r' hr';rcases Qg1 hr' with h|h
  ·exact hok r' h
  subst h;refine⟨by simp[WW,hl];omega,λu O=>?_⟩;simp only[WW,YT]at O;rcases O with(O|O)|O
  ·exact(hok r (XB hi)).2 u (FQ O)
  ·rw[XS]at hall;exact hall u O
  exact(hok r (XB hi)).2 u (QaX O)
 ·simp only[Qbi,hl1];exact e2
 have hI:∀k,Xp C Z w k->Xp C Z (w.setRow B.b (xs.toList.take (B.off+(i*B.z+off))++(a.eval y).cells.toList++xs.toList.drop (B.off+(i*B.z+off)+n)).toArray) k/\
   (w.setRow B.b (xs.toList.take (B.off+(i*B.z+off))++(a.eval y).cells.toList++xs.toList.drop (B.off+(i*B.z+off)+n)).toArray).heap[k]? = w.heap[k]?:=
  λk hk=>⟨⟨by simpa using hk.1,hk.2⟩,setRow_other w B.b k _ λe=>hk.2.2 b B hB (.inl e)⟩
 have old:∀(i':Nat) r',rs[i']? = X r'->∀(j:Nat) u,r'[j]? = X u->(i'*B.z+j<i*B.z+off\/i*B.z+off+n<=i'*B.z+j)->
   ∃y',(xs.toList.take (B.off+(i*B.z+off))++(a.eval y).cells.toList++xs.toList.drop (B.off+(i*B.z+off)+n)).toArray[B.off+(i'*B.z+j)]? = X y'/\
    XG (Xp C Z (w.setRow B.b (xs.toList.take (B.off+(i*B.z+off))++(a.eval y).cells.toList++xs.toList.drop (B.off+(i*B.z+off)+n)).toArray))
     (w.setRow B.b (xs.toList.take (B.off+(i*B.z+off))++(a.eval y).cells.toList++xs.toList.drop (B.off+(i*B.z+off)+n)).toArray) y' u:=by
  intro i' r' hi' j u O hout;obtain⟨y',h1',h2'⟩:=e3 i' r' hi' j u O;refine⟨y',?_,h2'.mono hI⟩;rw[CS];rcases hout with hout|hout
  ·rw[Kh,Jh (by simp;omega),Kd,if_pos (by omega)];simpa using h1'
  have hlt:B.off+(i'*B.z+j)<xs.size:=(Cg.1 h1').1;rw[Kc (by simp;omega),UQ];rw[<-h1'];simp;congr 1;omega
 intro i' r' hi' j u O;by_cases e:i'=i
 ·subst e;rw[Vn (by omega)]at hi';cases hi';by_cases hj:j<off
  ·have hu':r[j]? = X u:=by
    rw[WW,Kh,Jh (by simp;omega),Kd,if_pos hj]at O;exact O
   exact old i' r hi j u hu' (.inl (by omega))
  by_cases hj2:j<off+n
  ·have hu':v.cells[j-off]? = X u:=by
    rw[WW,Jh (by simp;omega),Kc (by simp;omega)]at O;rw[<-O];congr 1;simp;omega
   have hlt:j-off<(a.eval y).cells.size:=by omega
   have hD:=(hc (j-off) _ u (AV hlt) hu').toDat (by
    rw[XS]at hdat;exact hdat u (XB hu'))
   refine⟨(a.eval y).cells[j-off],?_,hD.mono hI⟩;rw[CS,Jh (by simp;omega),Kc (by simp;omega)];have:B.off+(i'*B.z+j)-(xs.toList.take (B.off+(i'*B.z+off))).length=j-off:=by simp;omega
   rw[this];simp[hlt]
  have hu':r[j]? = X u:=by
   rw[WW,Kc (by simp;omega),UQ]at O;rw[<-O];congr 1;simp;omega
  exact old i' r hi j u hu' (.inr (by omega))
 have hi'':rs[i']? = X r':=by rwa[Vl (Ne.symm e)]at hi'
 have hjz:j<B.z:=by
  have:=(Xf.1 O).1;rwa[(hok r' (XB hi'')).1]at this
 exact old i' r' hi'' j u O (QvQ e hjz hle)
def Qf.storeA {T b i off n z:Nat}{x y:Operand}{rs rs':L_ (L_ V)}{r:L_ V}{v:V}(ho:o.op=.store T x y)(hd:o.dst=n_)(hx:Y.opd x=X (.loc b i off))
  (hb:look Y.hp b=X (.arr z rs)) (hi:rs[i]? = X r) (hy:Y.opd y=X v) (h1:v.one=t_\/∃cs,v=.agg cs) (hs:CV P T=X n) (hl:v.cells.length=n)
  (h:v.cells.all V.one=t_) (O:v.cells.all V.dat=t_) (hle:Nat.ble (off+n) z=t_) (he:rs.set i (WW r off v.cells)=rs'):Qf P C o Y (Y.set b (.arr z rs')):=
 Qf.storeAV ho hd hx hb hi (λZ a w hr=>hr.opd hy) h1 hs hl h O hle he
def QfE {T f off:Nat}{w:World}{p:Addr}(h:OD P T f=X off):(Instr.fieldAt T (.pointer (X p)) f).run P w=.ok (.pointer (X (p.add off))) w:=by
 unfold OD at h;split at h
 ·rename_i fs hfs;split at h
  ·rename_i fl O;split at h
   ·rename_i i hi;split at h
    ·cases h
    rename_i hne;cases h;simp[Instr.fieldAt,run_underlying hfs,O,Instr.sureAddr,fieldPlace,sizeOf,typeInfo,hi,hne]
   cases h
  cases h
 cases h
def Qf.fieldL {T f d b i k off:Nat}{x:Operand}(ho:o.op=.fieldAddr T x f)(O:o.dst=X d)(hn:B_ d C)(hx:Y.opd x=X (.loc b i k))
  (hf:OD P T f=X off):Qf P C o Y (Y.put d (.loc b i (k+off))):=by
 refine Qf.same O hn λZ a w hr=>?_;obtain⟨B,h,he⟩:=(hr.opd hx).loc_inv;refine⟨.pointer (X ⟨B.b,B.off+(i*B.z+(k+off)),n_⟩),?_,.loc b i (k+off) B h⟩;simp only[execOp,ho,he,Xl,QfE hf,Xo,Xx,Addr.add_lit,OA]
def XG.ro_drop {I:Nat->Prop}{w:World}{b off:Nat}{h:L_ V}{c:Nat->Value}(k:Nat)(hI:I b)(h1:∀v∈h,v.one=t_)(hc:∀j,j<h.length->w.cell? ⟨b,off+j,n_⟩=X (c j))
  (hd:∀(j:Nat) v,h[j]? = X v->XG I w (c j) v):XG I w (.pointer (X ⟨b,off+k,n_⟩)) (.ro (h.drop k)):=by
 refine .ro b (off+k) _ (λj=>c (k+j)) hI (λv O=>h1 v (QaX O)) (λj hj=>?_) λj v O=>hd (k+j) v (by rwa[UQ]at O);have:=hc (k+j) (by simp at hj;omega);rwa[<-OA]at this
def Qf.fieldR {T f d off:Nat}{x:Operand}{cs h:L_ V}(ho:o.op=.fieldAddr T x f)(hd:o.dst=X d)(hn:B_ d C)(hx:Y.opd x=X (.ro cs))
  (hf:OD P T f=X off) (O:cs.drop off=h):Qf P C o Y (Y.put d (.ro h)):=by
 refine Qf.same hd hn λZ a w hr=>?_;subst O;obtain⟨b,k,O,hI,h1,c,hc,hD⟩:=(hr.opd hx).ro_inv;refine⟨.pointer (X ⟨b,k+off,n_⟩),?_,.dat (XG.ro_drop off hI h1 hc hD)⟩;simp only[execOp,ho,O,Xl,QfE hf,Xo,Xx,Addr.add_lit]
def KI {T e z by_:Nat}(h:YD P T=X (e,z,by_)):P.underlying T=X (.slice e)/\∃i,P.info? e=X i/\i.size=z/\i.bytes=by_:=by
 unfold YD at h;split at h
 ·rename_i e' O;split at h
  ·rename_i i hi;cases h;exact⟨O,i,hi,rfl,rfl⟩
  cases h
 cases h
def QqQ {T n z:Nat}(h:QeF P T=X (n,z)):∃e,P.underlying T=X (.array n e)/\∃i,P.info? e=X i/\i.size=z:=by
 unfold QeF at h;split at h
 ·rename_i n' e' O;split at h
  ·rename_i i hi;cases h;exact⟨e',O,i,hi,rfl⟩
  cases h
 cases h
def Qc5 {T e z by_ h cap:Nat}{w:World}{p:Addr}{k:IntKind}{j:Int}(hT:YD P T=X (e,z,by_))(O:0<=j)(h1:j<h):
  (Instr.indexAt T (.slice (X p) h cap) (.int k j)).run P w=.ok (.pointer (X (p.add (j.toNat*z)))) w:=by
 obtain⟨hu,i,hi,rfl,rfl⟩:=KI hT;simp[Instr.indexAt,asIntOf,run_underlying hu,sizeOf,typeInfo,hi,O,h1]
def Qf.idxS {T d e z by_:Nat}{x y:Operand}{rows:L_ (L_ V)}{r:L_ V}{k:IntKind}{j:Int}(ho:o.op=.indexAddr T x y)(hd:o.dst=X d)(hn:B_ d C)
  (hx:Y.opd x=X (.sl z rows)) (hy:Y.opd y=X (.i k j)) (hT:YD P T=X (e,z,by_)) (h0:0<=j) (h:rows[j.toNat]? = X r):Qf P C o Y (Y.put d (.ro r)):=by
 refine Qf.same hd hn λZ a w hr=>?_;have hlt:j.toNat<rows.length:=(Xf.1 h).1;rcases(hr.opd hx).sl_inv with⟨_,_,_,rfl⟩|⟨b,off,cap,he,hI,hcap,hok,c,hc,hD⟩
 ·simp at h
 have O:=hok r (XB h);have hbig:j.toNat*z+z<=rows.length*z:=by
  have:(j.toNat+1)*z<=rows.length*z:=Jr _ hlt;rw[Je]at this;omega
 refine⟨.pointer (X ⟨b,off+j.toNat*z,n_⟩),?_,.dat (.ro b _ r (λm=>c (j.toNat*z+m)) hI O.2 (λm hm=>?_) (λm v hv=>hD _ r h m v hv))⟩
 ·simp only[execOp,ho,he,(hr.opd hy).i_inv,Xl,Qc5 hT h0 (show j<(rows.length:Int) by omega),Xo,Xx,Addr.add_lit]
 have:=hc (j.toNat*z+m) (by rw[O.1]at hm;omega);rwa[<-OA]at this
def Qf.idxO {T d e z by_ b n:Nat}{x y:Operand}{rs:L_ (L_ V)}{k:IntKind}{j:Int}(ho:o.op=.indexAddr T x y)(hd:o.dst=X d)(hn:B_ d C)
  (hx:Y.opd x=X (.own b n)) (hy:Y.opd y=X (.i k j)) (hT:YD P T=X (e,z,by_)) (hb:look Y.hp b=X (.arr z rs)) (h0:0<=j) (h1:j<n):
  Qf P C o Y (Y.put d (.loc b j.toNat 0)):=by
 refine Qf.same hd hn λZ a w h=>?_;rcases(h.opd hx).own_inv with⟨_,rfl⟩|⟨B,O,hcap,he⟩
 ·omega
 have hz:B.z=z:=(h.block O hb).1;refine⟨.pointer (X ⟨B.b,B.off+(j.toNat*B.z+0),n_⟩),?_,.loc b j.toNat 0 B O⟩;simp only[execOp,ho,he,(h.opd hy).i_inv,Xl,Qc5 hT h0 h1,Xo,Xx,Addr.add_lit,hz,Gp,My]
def QiP {T z n:Nat}{w:World}{p:Addr}{k:IntKind}{j:Int}(hT:QeF P T=X (n,z))(h:0<=j)(O:j<n):
  (Instr.indexAt T (.pointer (X p)) (.int k j)).run P w=.ok (.pointer (X (p.add (j.toNat*z)))) w:=by
 obtain⟨e,hu,i,hi,rfl⟩:=QqQ hT;simp[Instr.indexAt,asIntOf,run_underlying hu,sizeOf,typeInfo,hi,h,O,Instr.sureAddr]
def Qf.idxAL {T d z n b i m off:Nat}{x y:Operand}{k:IntKind}{j:Int}(ho:o.op=.indexAddr T x y)(hd:o.dst=X d)(hn:B_ d C)
  (hx:Y.opd x=X (.loc b i m)) (hy:Y.opd y=X (.i k j)) (hT:QeF P T=X (n,z)) (h0:0<=j) (h1:j<n) (h:m+j.toNat*z=off):Qf P C o Y (Y.put d (.loc b i off)):=by
 refine Qf.same hd hn λZ a w O=>?_;subst h;obtain⟨B,hB,he⟩:=(O.opd hx).loc_inv;refine⟨.pointer (X ⟨B.b,B.off+(i*B.z+(m+j.toNat*z)),n_⟩),?_,.loc b i _ B hB⟩;simp only[execOp,ho,he,(O.opd hy).i_inv,Xl,QiP hT h0 h1,Xo,Xx,Addr.add_lit,OA]
def Qf.idxAR {T d z n:Nat}{x y:Operand}{k:IntKind}{j:Int}{cs h:L_ V}(ho:o.op=.indexAddr T x y)(hd:o.dst=X d)(hn:B_ d C)
  (hx:Y.opd x=X (.ro cs)) (hy:Y.opd y=X (.i k j)) (hT:QeF P T=X (n,z)) (h0:0<=j) (h1:j<n) (he:cs.drop (j.toNat*z)=h):Qf P C o Y (Y.put d (.ro h)):=by
 refine Qf.same hd hn λZ a w hr=>?_;subst he;obtain⟨b,m,he,hI,O,c,hc,hD⟩:=(hr.opd hx).ro_inv;refine⟨.pointer (X ⟨b,m+j.toNat*z,n_⟩),?_,.dat (XG.ro_drop _ hI O hc hD)⟩;simp only[execOp,ho,he,(hr.opd hy).i_inv,Xl,QiP hT h0 h1,Xo,Xx,Addr.add_lit]
def Qg6 (P:Program)(t:TypeId):Bool:=match P.underlying t with|some .string=>true|_=>f_
def Qc6 {T:Nat}(h:Qg6 P T=t_):P.underlying T=X .string:=by
 unfold Qg6 at h;split at h
 ·assumption
 cases h
def Qf.idxStr {T d:Nat}{x y:Operand}{k:IntKind}{j:Int}{s:ByteArray}{c:UInt8}(ho:o.op=.index T x y)(hd:o.dst=X d)(hn:B_ d C)
  (hx:Y.opd x=X (.s s)) (hy:Y.opd y=X (.i k j)) (hT:Qg6 P T=t_) (O:0<=j) (hc:s[j.toNat]? = X c):Qf P C o Y (Y.put d (.i .u8 c.toNat)):=by
 refine Qf.same hd hn λZ a w h=>?_;refine⟨.int .u8 c.toNat,?_,.dat (.i _ _)⟩;simp[execOp,ho,(h.opd hx).s_inv,(h.opd hy).i_inv,Instr.index,asIntOf,run_underlying (Qc6 hT),O,hc]
def Qf.lenS {T d e z z' by_:Nat}{x:Operand}{rows:L_ (L_ V)}(ho:o.op=.call { callee:=.builtin .len,args:=#[x],argTypes:=#[T] })(hd:o.dst=X d)(hn:B_ d C)
  (hx:Y.opd x=X (.sl z rows)) (O:YD P T=X (e,z',by_)):Qf P C o Y (Y.put d (.i .i64 rows.length)):=by
 refine Qf.same hd hn λZ a w hr=>?_;obtain⟨hu,_⟩:=KI O;refine⟨.int .i64 rows.length,?_,.dat (.i _ _)⟩;rcases(hr.opd hx).sl_inv with⟨p,cap,h,rfl⟩|⟨b,off,cap,h,_⟩ <;>
  simp[execOp,ho,h,resolve,invoke,builtin,Builtin.len_,run_underlying hu,goInt]
def Qf.lenO {T d e z' by_ b n:Nat}{x:Operand}(ho:o.op=.call { callee:=.builtin .len,args:=#[x],argTypes:=#[T] })(hd:o.dst=X d)(hn:B_ d C)
  (hx:Y.opd x=X (.own b n)) (O:YD P T=X (e,z',by_)):Qf P C o Y (Y.put d (.i .i64 n)):=by
 refine Qf.same hd hn λZ a w hr=>?_;obtain⟨hu,_⟩:=KI O;refine⟨.int .i64 n,?_,.dat (.i _ _)⟩;rcases(hr.opd hx).own_inv with⟨h,rfl⟩|⟨B,_,_,h⟩ <;>
  simp[execOp,ho,h,resolve,invoke,builtin,Builtin.len_,run_underlying hu,goInt]
def Qf.lenN {T d e z' by_:Nat}{x:Operand}(ho:o.op=.call { callee:=.builtin .len,args:=#[x],argTypes:=#[T] })(O:o.dst=X d)(hn:B_ d C)
  (hx:Y.opd x=X (.lit (.slice n_ 0 0))) (h:YD P T=X (e,z',by_)):Qf P C o Y (Y.put d (.i .i64 0)):=by
 refine Qf.same O hn λZ a w hr=>?_;obtain⟨hu,_⟩:=KI h;refine⟨.int .i64 0,?_,.dat (.i _ _)⟩;simp[execOp,ho,(hr.opd hx).lit_inv,resolve,invoke,builtin,Builtin.len_,run_underlying hu,goInt]
def Qf.lenStr {T d:Nat}{x:Operand}{s:ByteArray}(ho:o.op=.call { callee:=.builtin .len,args:=#[x],argTypes:=#[T] })(O:o.dst=X d)(hn:B_ d C)
  (hx:Y.opd x=X (.s s)) (h:Qg6 P T=t_):Qf P C o Y (Y.put d (.i .i64 s.size)):=by
 refine Qf.same O hn λZ a w hr=>?_;refine⟨.int .i64 s.size,?_,.dat (.i _ _)⟩;simp[execOp,ho,(hr.opd hx).s_inv,resolve,invoke,builtin,Builtin.len_,run_underlying (Qc6 h),goInt]
end
section
variable {P:Program}{C:XC}{Y:St}{o:Oper}
def FU {T:Nat}{zs:L_ V}(h:XY P T=X zs):∃i z,P.info? T=X i/\i.zero=X z/\z.cells.toList.map Fu=zs:=by
 unfold XY at h;split at h
 ·rename_i i O;split at h
  ·rename_i z hz;cases h;exact⟨i,z,O,hz,rfl⟩
  cases h
 cases h
def Qrz (z:Array Value)(n k:Nat)(h:k<n):(madeCells z n)[k]? = X (z[k % z.size]!):=by
 simp[madeCells,h]
def Qf.make {T d e z by_:Nat}{x y:Operand}{zs:L_ V}{k k':IntKind}{l c:Int}(ho:o.op=.makeSlice T x y)(hd:o.dst=X d)(hn:B_ d C)
  (hx:Y.opd x=X (.i k l)) (hy:Y.opd y=X (.i k' c)) (hT:YD P T=X (e,z,by_)) (hz:XY P e=X zs) (hzl:zs.length=z) (hz0:z≠0) (hone:zs.all V.one=t_)
  (h0:0<=l) (hlc:l<=c) (hby:by_<=32768) (hc:c<=4294967296) (hf:look Y.hp d=n_):
  Qf P C o Y ((Y.set d (.arr z (List.replicate l.toNat zs))).put d (.own d l.toNat)):=by
 refine Qf.val λZ a w hr=>?_;obtain⟨hu,i,hi,hiz,hib⟩:=KI hT;obtain⟨i',zv,hi',hz',O⟩:=FU hz;rw[hi]at hi';cases hi';have hzs:zv.cells.size=z:=by rw[<-hzl,<-O];simp
 have h:(i.bytes:Int)*c<=281474976710656:=by
  rw[hib];have h1:(by_:Int)*c<=32768*c:=Int.mul_le_mul_of_nonneg_right (by omega) (by omega);omega
 have hrun:=run_make (P:=P) w T e i zv hu hi hz' k k' l c h0 hlc h (by omega);rw[hiz]at hrun;have hN:=hr.none_of_look hf;refine⟨.slice (X ⟨w.heap.size,0,n_⟩) l.toNat c.toNat,w.alloc (.cells (madeCells zv.cells (c.toNat*z)) e),ext Z d ⟨w.heap.size,c.toNat,z,[],0⟩,?_,?_⟩
 ·simp only[execOp,ho,(hr.opd hx).i_inv,(hr.opd hy).i_inv,Xl,hrun,Xo,Xx]
 have hle:l.toNat<=c.toNat:=by omega
 have hnew:=hr.alloc (cap:=c.toNat) (z:=z) hf (C.slot hn) (ob:=.arr z (List.replicate l.toNat zs)) (obj:=.cells (madeCells zv.cells (c.toNat*z)) e)
  (YW.mk0 rfl rfl (by simpa using hle) (λr hr'=>by
   obtain⟨_,rfl⟩:=List.mem_replicate.1 hr';exact⟨hzl,λv hv=>by rw[XS]at hone;exact hone v hv⟩) _ e (heap_alloc_new w _) (size_madeCells _ _) λm r hm j v hv=>by
   obtain⟨hm1,rfl⟩:m<l.toNat/\zs=r:=by
    have:=Xf.1 hm;obtain⟨h1,h2⟩:=this;simp at h1 h2;exact⟨by omega,h2⟩
   have hj:j<z:=by rw[<-hzl];exact(Xf.1 hv).1
   have hlt:m*z+j<c.toNat*z:=by
    have:(m+1)*z<=c.toNat*z:=Jr _ (by omega);rw[Je]at this;omega
   refine⟨_,Qrz _ _ _ hlt,?_⟩;have hmod:(m*z+j) % zv.cells.size=j:=by rw[hzs,Nat.mul_comm,Nat.mul_add_mod,Nat.mod_eq_of_lt hj]
   rw[hmod];have hjs:j<zv.cells.size:=by omega
   have:v=Fu zv.cells[j]:=by
    rw[<-O]at hv;simp[hjs]at hv;exact hv.symm
   subst this;rw[getElem!_pos zv.cells j hjs];exact XG.const _)
 rw[hd];refine hnew.put (XT hn) ?_;exact .own d l.toNat ⟨w.heap.size,c.toNat,z,[],0⟩ (XQ _ _ _) hle
def Bw (h:Nat->O_ (Nat×Nat))(O:L_ V):S_->O_ (L_ V)
 |[]=>X O|(i,v)::rest=>match h i with|none=>n_|some (off,n)=>bif Nat.beq v.cells.length n&&Nat.ble (off+n) O.length then Bw h (WW O off v.cells) rest else n_
def V.isV : V->Bool
 |.agg _=>t_|v=>v.one
def V.isV_or {v:V}(h:v.isV=t_):v.one=t_\/∃O,v=.agg O:=by
 cases v<;>first|exact .inl h|exact .inr ⟨_,rfl⟩
def QvR (off:Nat):∀(vs:L_ Value) (k:Nat) (O:Array Value),off+k+vs.length<=O.size->
  ((vs.zipIdx k).foldl (λ(O:Array Value) (p:Value×Nat)=>O.setIfInBounds (off+p.2) p.1) O).toList=O.toList.take (off+k)++vs++O.toList.drop (off+k+vs.length):=by
 intro vs
 induction vs with
 |nil=>intro k O _;simp|cons v vs ih=>
  intro k O h;simp only[WI]at h;rw[List.zipIdx_cons,List.foldl_cons,ih (k+1) _ (by simp;omega)];have h1:off+k<O.toList.length:=by simp;omega
  simp only[Array.toList_setIfInBounds];rw[show off+(k+1)=off+k+1 by omega];rw[List.take_set,List.drop_set];have h2:off+k<(O.toList.take (off+k+1)).length:=by simp;omega
  rw[if_pos (by omega)];rw[List.take_succ_eq_append_getElem h1,List.set_append_right _ _ (by simp;omega),show off+k-(List.take (off+k) O.toList).length=0 by simp;omega];simp only[List.set_cons_zero,Kh,QgY,FR,WI];congr 3;congr 1;omega
def Qxo {Z:Nat->O_ Xh}{I:Nat->Prop}{w:World}{place:Nat->O_ (Nat×Nat)}:∀(ps:L_ (Nat×Value)) (qs:S_) (xs:Array Value) (cs cs':L_ V),
  ps.length=qs.length->(∀(j:Nat) p q,ps[j]? = X p->qs[j]? = X q->p.1=q.1/\q.2.isV=t_/\QW Z I w p.2 q.2)->
  xs.size=cs.length->(∀(j:Nat) x v,xs[j]? = X x->cs[j]? = X v->QW Z I w x v)->Bw place cs qs=X cs'->
  ∃xs',Instr.fill place xs ps=X xs'/\xs'.size=cs'.length/\∀(j:Nat) x v,xs'[j]? = X x->cs'[j]? = X v->QW Z I w x v:=by
 intro ps
 induction ps with
 |nil=>
  intro qs xs cs cs' hl _ hs hr hf;cases qs with|cons=>simp at hl|nil=>simp only[Bw,Option.some.injEq]at hf;subst hf;exact⟨xs,rfl,hs,hr⟩
 |cons p ps ih=>
  intro qs xs cs cs' hl hp hs hr hf;cases qs with
  |nil=>simp at hl|cons q qs=>
   obtain⟨i,x⟩:=p;obtain⟨i',v⟩:=q;obtain⟨h1,h2,h3⟩:=hp 0 (i,x) (i',v) rfl rfl;dsimp only at h1 h2 h3;subst h1;simp only[Bw]at hf;cases hpl:place i with
   |none=>rw[hpl]at hf;cases hf
   |some on=>
    obtain⟨off,n⟩:=on;rw[hpl]at hf;dsimp only at hf;cases hb:(Nat.beq v.cells.length n&&Nat.ble (off+n) cs.length)with
    |false=>rw[hb]at hf;cases hf
    |true=>
     rw[hb]at hf;rw[QN]at hb;have hb1:=Yp hb.1;have hb2:=JC hb.2;obtain⟨hcs,hc⟩:=h3.cells (V.isV_or h2);have h:=QvR off x.cells.toList 0 xs (by simp;omega);simp only[My]at h;simp only[Instr.fill,hpl];rw[if_neg (by simp;omega)];refine ih qs _ _ cs' (by simpa using hl) (λj p q h1 h2=>hp (j+1) p q h1 h2) ?_ ?_ hf
     ·have:=congrArg List.length h;simp only[Array.length_toList,<-Array.foldl_toList,Array.toList_zipIdx]at this ⊢;rw[this];simp[WW];omega
     intro j y u hy hu;have O:(xs.toList.take off++x.cells.toList++xs.toList.drop (off+x.cells.toList.length))[j]? = X y:=by
      rw[<-h,<-hy];simp only[<-Array.foldl_toList,Array.toList_zipIdx,QfC]
     rw[WW]at hu;simp only[Array.length_toList]at O;by_cases hj:j<off
     ·rw[Kh,Jh (by simp;omega),Kd,if_pos hj]at O hu;exact hr j y u (by simpa using O) hu
     by_cases hj2:j<off+n
     ·rw[Jh (by simp;omega),Kc (by simp;omega)]at O hu;refine hc (j-off) y u ?_ ?_
      ·rw[<-O];simp;congr 1;omega
      rw[<-hu];simp;congr 1;omega
     rw[Kc (by simp;omega)]at O hu;refine hr j y u ?_ ?_
     ·rw[<-O];simp;congr 1;omega
     rw[<-hu];simp;congr 1;omega
def Qg7 (P:Program)(T:TypeId):O_ (L_ (Nat×Nat)):=
 match P.underlying T with
 |some (.struct fs)=>fs.toList.mapM λf=>match P.info? f.type with|some i=>X (f.offset,i.size)|none=>n_
 |_=>n_
def Qux : ∀(fs:L_ Field) (O:L_ (Nat×Nat)) (w:World),(fs.mapM λf=>match P.info? f.type with|some i=>X (f.offset,i.size)|none=>n_)=X O->
  (fs.mapM λf=>do pure (f.offset,<-sizeOf f.type):Sem (L_ (Nat×Nat))).run P w=.ok O w:=by
 intro fs
 induction fs with
 |nil=>intro O w h;simp at h;subst h;simp|cons f fs ih=>
  intro O w h;rw[List.mapM_cons]at h;cases hi:P.info? f.type with
  |none=>simp[hi]at h|some i=>
   simp only[hi,Option.bind_eq_bind,Qa,Vq,Option.pure_def,Option.some.injEq]at h;obtain⟨ps',h1,rfl⟩:=h;have:=ih ps' w h1;simp only[List.mapM_cons,Xl,sizeOf,typeInfo,run_program,Xo,hi,Xx]at this ⊢;rw[this];rfl
def St.opds (Y:St):L_ (Nat×Operand)->O_ S_
 |[]=>X []|(i,x)::r=>match Y.opd x,Y.opds r with|some v,X vs=>X ((i,v)::vs)|_,_=>n_
def RR.opds {Z:Nat->O_ Xh}{a:Act}{w:World}(h:RR C Z Y a w):∀(ps:L_ (Nat×Operand)) (qs:S_),Y.opds ps=X qs->
  ps.length=qs.length/\∀(j:Nat) p q,(ps.map λp=>(p.1,a.eval p.2))[j]? = X p->qs[j]? = X q->p.1=q.1/\QW Z (Xp C Z w) w p.2 q.2:=by
 intro ps
 induction ps with
 |nil=>intro qs O;simp only[St.opds,Option.some.injEq]at O;subst O;simp|cons p ps ih=>
  intro qs O;obtain⟨i,x⟩:=p;simp only[St.opds]at O;split at O
  ·rename_i v vs hv hvs;cases O;obtain⟨h1,h2⟩:=ih vs hvs;refine⟨by simp[h1],λj p q hp hq'=>?_⟩;cases j with|zero=>simp at hp hq';subst hp;subst hq';exact⟨rfl,h.opd hv⟩|succ j=>exact h2 j p q hp hq'
  cases O
def RR.fill {Z:Nat->O_ Xh}{a:Act}{w:World}(hr:RR C Z Y a w){h:Nat->O_ (Nat×Nat)}{ps:L_ (Nat×Operand)}{qs:S_}{z:Array Value}{vs:L_ V}
  (hq:Y.opds ps=X qs) (hv:qs.all (λq=>q.2.isV)=t_) (hf:Bw h (z.toList.map Fu) qs=X vs):
  ∃O,Instr.fill h z (ps.map λp=>(p.1,a.eval p.2))=X O/\O.size=vs.length/\∀(j:Nat) x v,O[j]? = X x->vs[j]? = X v->QW Z (Xp C Z w) w x v:=by
 obtain⟨h1,h2⟩:=hr.opds ps qs hq;refine Qxo _ qs z _ vs (by simpa using h1) (λj p q hp hq'=>?_) (by simp) (λj x v hx hv'=>?_) hf
 ·obtain⟨h3,h4⟩:=h2 j p q hp hq';exact⟨h3,by rw[XS]at hv;exact hv q (XB hq'),h4⟩
 simp[hx]at hv';subst hv';exact .dat (XG.const _)
def Qf.build {T d:Nat}{h:Array (Nat×Operand)}{pl:L_ (Nat×Nat)}{zs vs:L_ V}{qs:S_}(ho:o.op=.build T h)(hd:o.dst=X d)(hn:B_ d C)
  (hz:XY P T=X zs) (O:Qg7 P T=X pl) (hq:Y.opds h.toList=X qs) (hv:qs.all (λq=>q.2.isV)=t_)
  (hf:Bw (pl[·]?) zs qs=X vs):Qf P C o Y (Y.put d (.agg vs)):=by
 refine Qf.same hd hn λZ a w hr=>?_;obtain⟨i,z,hi,hz',rfl⟩:=FU hz;unfold Qg7 at O;split at O
 ·rename_i fs hfs;have hrun:=Qux (P:=P) fs.toList pl w O;obtain⟨xs',h1,h2,h3⟩:=hr.fill hq hv hf;refine⟨.agg xs',?_,.agg _ _ h2 h3⟩;have hm:(fs.mapM λf=>do pure (f.offset,<-sizeOf f.type):Sem (Array (Nat×Nat))).run P w=.ok pl.toArray w:=by
   rw[Array.mapM_eq_mapM_toList,Sem.run_map,hrun];rfl
  have e:(λx:Nat=>pl.toArray[x]?)=λx:Nat=>pl[x]? := by funext x;simp
  have e2:(h.map λp=>(p.1,a.eval p.2)).toList=h.toList.map λp=>(p.1,a.eval p.2):=by simp
  simp only[execOp,ho,Instr.build,Xl,zeroValue,typeInfo,run_program,Xo,hi,hz',Xx,run_underlying hfs,hm,e,e2,h1]
 cases O
def Qf.buildA {T d n z:Nat}{h:Array (Nat×Operand)}{zs vs:L_ V}{qs:S_}(ho:o.op=.build T h)(hd:o.dst=X d)(hn:B_ d C)
  (hz:XY P T=X zs) (hT:QeF P T=X (n,z)) (hq:Y.opds h.toList=X qs) (hv:qs.all (λq=>q.2.isV)=t_)
  (hf:Bw (λi=>X (i*z,z)) zs qs=X vs):Qf P C o Y (Y.put d (.agg vs)):=by
 refine Qf.same hd hn λZ a w hr=>?_;obtain⟨i,zv,hi,O,rfl⟩:=FU hz;obtain⟨e,hu,j,hj,rfl⟩:=QqQ hT;obtain⟨xs',h1,h2,h3⟩:=hr.fill hq hv hf;refine⟨.agg xs',?_,.agg _ _ h2 h3⟩;have e2:(h.map λp=>(p.1,a.eval p.2)).toList=h.toList.map λp=>(p.1,a.eval p.2):=by simp
 simp only[execOp,ho,Instr.build,Xl,zeroValue,typeInfo,run_program,Xo,hi,O,Xx,run_underlying hu,sizeOf,hj,e2,h1]
def Mz (z:Nat):Nat->L_ V->L_ (L_ V)
 |0,_=>[]|n+1,h=>h.take z::Mz z n (h.drop z)
def Fv (z n:Nat)(h:L_ V):(Mz z n h).length=n:=by
 induction n generalizing h with|zero=>rfl|succ n O=>simp[Mz,O]
def Qcv (z:Nat):∀(n:Nat) (O:L_ V) (i:Nat),i<n->(Mz z n O)[i]? = X ((O.drop (i*z)).take z):=by
 intro n
 induction n with
 |zero=>intro O i h;omega|succ n ih=>
  intro O i h;cases i with|zero=>simp[Mz]|succ i=>simp only[Mz,Qj9];rw[ih _ i (by omega),List.drop_drop,Je];congr 3;omega
def Qg8 (zv:Array Value)(n z:Nat)(O:zv.size=z)(h0:z≠0):((Array.range (n*z)).map (zv[· % zv.size]!)).toList.map Fu=((List.range (n*z)).map λk=>(zv.toList.map Fu).getD (k % z) .J):=by
 simp only[Array.toList_map,Array.toList_range,QaW];apply QaV;intro k hk;have h:k % zv.size<zv.size:=Nat.mod_lt _ (by omega);simp only[Function.comp,<-O];rw[getElem!_pos zv (k % zv.size) h];simp[h]
def Qf.buildSlice {T d e z by_ n:Nat}{O:Array (Nat×Operand)}{zs vs:L_ V}{qs:S_}{rs:L_ (L_ V)}(ho:o.op=.buildSlice T n O)(hd:o.dst=X d)(hn:B_ d C)
  (hT:YD P T=X (e,z,by_)) (hz:XY P e=X zs) (hzl:zs.length=z) (hz0:z≠0) (hbig:n*z<=16777216) (hq:Y.opds O.toList=X qs) (hv:qs.all (λq=>q.2.isV)=t_)
  (hf:Bw (λi=>X (i*z,z)) ((List.range (n*z)).map λk=>zs.getD (k % z) .J) qs=X vs) (hone:vs.all V.one=t_) (hdat:vs.all V.dat=t_) (hrs:Mz z n vs=rs)
  (hfr:look Y.hp d=n_):Qf P C o Y ((Y.set d (.arr z rs)).put d (.own d n)):=by
 refine Qf.val λZ a w hr=>?_;obtain⟨hu,i,hi,rfl,_⟩:=KI hT;obtain⟨i',zv,hi',hz',rfl⟩:=FU hz;rw[hi]at hi';cases hi';have hzs:zv.cells.size=i.size:=by simpa using hzl
 have hpos:0<i.size:=Nat.pos_of_ne_zero hz0;rw[<-Qg8 zv.cells n i.size hzs hz0]at hf;obtain⟨xs',h1,h2,h3⟩:=hr.fill hq hv hf;have hvl:vs.length=n*i.size:=by
  have key:∀(qs:S_) (cs cs':L_ V) (pl:Nat->O_ (Nat×Nat)),Bw pl cs qs=X cs'->cs'.length=cs.length:=by
   intro qs
   induction qs with
   |nil=>intro cs cs' pl h;simp only[Bw,Option.some.injEq]at h;rw[h]|cons q qs ih=>
    intro cs cs' pl h;obtain⟨k,v⟩:=q;simp only[Bw]at h;split at h
    ·cases h
    rename_i off m _;cases hb:(Nat.beq v.cells.length m&&Nat.ble (off+m) cs.length)with
    |false=>rw[hb]at h;cases h
    |true=>
     rw[hb]at h;rw[QN]at hb;have hb1:=Yp hb.1;have hb2:=JC hb.2;rw[ih _ _ _ h];simp[WW];omega
  rw[key _ _ _ _ hf];simp
 subst hrs;refine⟨.slice (X ⟨w.heap.size,0,n_⟩) n n,w.alloc (.cells xs' e),ext Z d ⟨w.heap.size,n,i.size,[],0⟩,?_,?_⟩
 ·have e2:(O.map λp=>(p.1,a.eval p.2)).toList=O.toList.map λp=>(p.1,a.eval p.2):=by simp
  have hb:¬(n*i.size > 2 ^ 24):=by omega
  by_cases hn0:n*i.size=0
  ·have hn1:n=0:=by rcases Nat.mul_eq_zero.1 hn0 with h|h<;>omega
   subst hn1;simp only[Ij]at h1;rw[QgX,QlC]at h1;simp only[execOp,ho,Instr.buildSlice,Xl,run_underlying hu,Xo,sizeOf,typeInfo,run_program,hi,Xx,Ij,if_true,e2,QgX,QlC];simp[h1,newRow]
  simp only[execOp,ho,Instr.buildSlice,Xl,run_underlying hu,Xo,sizeOf,typeInfo,run_program,hi,Xx,if_neg hb,if_neg hn0,zeroValue,hz',e2,h1,newRow,run_newObj];simp
 have hN:=hr.none_of_look hfr;have hnew:=hr.alloc (cap:=n) (z:=i.size) hfr (C.slot hn) (ob:=.arr i.size (Mz i.size n vs)) (obj:=.cells xs' e)
  (YW.mk0 rfl rfl (by rw[Fv];exact Yk _) (λr hr'=>by
   obtain⟨j,hj⟩:=List.getElem?_of_mem hr';have hjn:j<n:=by have:=(Xf.1 hj).1;rwa[Fv]at this
   rw[Qcv _ _ _ _ hjn]at hj;cases hj;have:(j+1)*i.size<=n*i.size:=Jr _ hjn;rw[Je]at this;refine⟨by simp;omega,λv hv=>?_⟩;rw[XS]at hone;exact hone v (QaX (FQ hv))) _ e (heap_alloc_new w _) (by rw[h2,hvl]) λm r hm j v hv'=>by
   have hmn:m<n:=by have:=(Xf.1 hm).1;rwa[Fv]at this
   rw[Qcv _ _ _ _ hmn]at hm;cases hm;rw[Kd]at hv';have hjz:j<i.size:=by
    rcases DP j i.size with h|h
    ·exact h
    rw[if_neg (by omega)]at hv';simp at hv'
   rw[if_pos hjz,UQ]at hv';have hlt:m*i.size+j<xs'.size:=by rw[h2];exact(Xf.1 hv').1
   refine⟨xs'[m*i.size+j],AV hlt,?_⟩;have hD:=(h3 _ _ v (AV hlt) hv').toDat (by rw[XS]at hdat;exact hdat v (XB hv'));exact hD.mono (hr.imm_alloc d n i.size _ hN))
 rw[hd];refine hnew.put (XT hn) ?_;exact .own d n ⟨w.heap.size,n,i.size,[],0⟩ (XQ _ _ _) (Yk _)
end
def den1 : O_ Nat->V->V
 |some z,.lit (.slice n_ 0 0)=>.sl z []|_,v=>v
def EB : L_ (O_ Nat)->L_ V->L_ V
 |m::ms,v::vs=>den1 m v::EB ms vs|_,vs=>vs
def V.denil (ms:L_ (O_ Nat)):V->V
 |.agg h=>.agg (EB ms h)|.tup h=>.tup (EB ms h)|v=>den1 (ms.headD n_) v
section
variable {Z:Nat->O_ Xh}{I:Nat->Prop}{w:World}{x:Value}{v:V}
def QW.den1 {m:O_ Nat}(h:QW Z I w x v):QW Z I w x (Vm.den1 m v):=by
 unfold Vm.den1;split
 ·rw[h.lit_inv];exact .dat (.sl0 _ _ _)
 exact h
def Qg9 : ∀(ms:L_ (O_ Nat)) (vs:L_ V),(EB ms vs).length=vs.length:=by
 intro ms
 induction ms with
 |nil=>intro vs;cases vs<;>rfl
 |cons m ms h=>intro vs;cases vs with|nil=>rfl|cons v vs=>simp[EB,h vs]
def Qc7 : ∀(ms:L_ (O_ Nat)) (vs:L_ V) (j:Nat) (u:V),(EB ms vs)[j]? = X u->∃m v,vs[j]? = X v/\u=Vm.den1 m v:=by
 intro ms
 induction ms with
 |nil=>intro vs j u h;cases vs<;>exact⟨n_,u,h,rfl⟩
 |cons m ms O=>
  intro vs j u h;cases vs with
  |nil=>simp[EB]at h|cons v vs=>
   cases j with|zero=>simp[EB]at h;exact⟨m,v,rfl,h.symm⟩|succ j=>simp[EB]at h;exact O vs j u h
def QW.denil {ms:L_ (O_ Nat)}(h:QW Z I w x v):QW Z I w x (v.denil ms):=by
 unfold V.denil;split
 ·obtain⟨xs,rfl,hs,O⟩:=h.agg_inv;refine .agg xs _ (by rw[Qg9];exact hs) λj y u hy hu=>?_;obtain⟨m,v,hv,rfl⟩:=Qc7 _ _ j u hu;exact(O j y v hy hv).den1
 ·obtain⟨xs,rfl,hs,O⟩:=h.tup_inv;refine .tup xs _ (by rw[Qg9];exact hs) λj y u hy hu=>?_;obtain⟨m,v,hv,rfl⟩:=Qc7 _ _ j u hu;exact(O j y v hy hv).den1
 exact h.den1
end
section
variable {P:Program}{C:XC}{Y:St}{o:Oper}
def Qf.buildSliceD {T d e z by_ n:Nat}{parts:Array (Nat×Operand)}{zs vs:L_ V}{qs:S_}{rs:L_ (L_ V)}(ms:L_ (O_ Nat))(ho:o.op=.buildSlice T n parts)(hd:o.dst=X d)(hn:B_ d C)
  (hT:YD P T=X (e,z,by_)) (hz:XY P e=X zs) (hzl:zs.length=z) (hz0:z≠0) (hbig:n*z<=16777216) (hq:Y.opds parts.toList=X qs) (hv:qs.all (λq=>q.2.isV)=t_)
  (hf:Bw (λi=>X (i*z,z)) ((List.range (n*z)).map λk=>zs.getD (k % z) .J) qs=X vs) (hone:(EB ms vs).all V.one=t_) (hdat:(EB ms vs).all V.dat=t_) (hrs:Mz z n (EB ms vs)=rs):Qf P C o Y (Y.put d (.sl z rs)):=by
 refine Qf.val λZ a w hr=>?_;obtain⟨hu,i,hi,rfl,_⟩:=KI hT;obtain⟨i',zv,hi',hz',rfl⟩:=FU hz;rw[hi]at hi';cases hi';have hzs:zv.cells.size=i.size:=by simpa using hzl
 have hpos:0<i.size:=Nat.pos_of_ne_zero hz0;rw[<-Qg8 zv.cells n i.size hzs hz0]at hf;obtain⟨O,h1,h2,h3⟩:=hr.fill hq hv hf;have hvl:vs.length=n*i.size:=by
  have key:∀(qs:S_) (cs cs':L_ V) (pl:Nat->O_ (Nat×Nat)),Bw pl cs qs=X cs'->cs'.length=cs.length:=by
   intro qs
   induction qs with
   |nil=>intro cs cs' pl h;simp only[Bw,Option.some.injEq]at h;rw[h]|cons q qs ih=>
    intro cs cs' pl h;obtain⟨k,v⟩:=q;simp only[Bw]at h;split at h
    ·cases h
    rename_i off m _;cases hb:(Nat.beq v.cells.length m&&Nat.ble (off+m) cs.length)with
    |false=>rw[hb]at h;cases h
    |true=>
     rw[hb]at h;rw[QN]at hb;have hb1:=Yp hb.1;have hb2:=JC hb.2;rw[ih _ _ _ h];simp[WW];omega
  rw[key _ _ _ _ hf];simp
 subst hrs;refine⟨.slice (X ⟨w.heap.size,0,n_⟩) n n,w.alloc (.cells O e),Z,?_,?_⟩
 ·have e2:(parts.map λp=>(p.1,a.eval p.2)).toList=parts.toList.map λp=>(p.1,a.eval p.2):=by simp
  have hb:¬(n*i.size > 2 ^ 24):=by omega
  by_cases hn0:n*i.size=0
  ·have hn1:n=0:=by rcases Nat.mul_eq_zero.1 hn0 with h|h<;>omega
   subst hn1;simp only[Ij]at h1;rw[QgX,QlC]at h1;simp only[execOp,ho,Instr.buildSlice,Xl,run_underlying hu,Xo,sizeOf,typeInfo,run_program,hi,Xx,Ij,if_true,e2,QgX,QlC];simp[h1,newRow]
  simp only[execOp,ho,Instr.buildSlice,Xl,run_underlying hu,Xo,sizeOf,typeInfo,run_program,hi,Xx,if_neg hb,if_neg hn0,zeroValue,hz',e2,h1,newRow,run_newObj];simp
 have hold:∀k,k<w.heap.size->(w.alloc (.cells O e)).heap[k]? = w.heap[k]? := λk hk=>heap_alloc_old w _ hk;have hst:=hr.step (w':=w.alloc (.cells O e)) rfl rfl rfl (by simp) hold;have hnewI:Xp C Z (w.alloc (.cells O e)) w.heap.size:=⟨by simp,λh=>absurd hr.size (by omega),λo B hB hk=>absurd (hr.lt o B _ hB hk).1 (Nat.lt_irrefl _)⟩;have hI:∀k,Xp C Z w k->Xp C Z (w.alloc (.cells O e)) k/\(w.alloc (.cells O e)).heap[k]? = w.heap[k]? := λk hk=>⟨⟨Ez hk.1 (by simp),hk.2⟩,hold k hk.1⟩;rw[hd];refine hst.put (XT hn) (.dat (.sl w.heap.size 0 n n i.size (Mz i.size n (EB ms vs)) (λj=>O.getD j undef) hnewI (Fv _ _ _).symm (Yk _) (λr hr'=>?_) (λj hj=>?_) (λm r hm j v hv'=>?_)))
 ·obtain⟨j,hj⟩:=List.getElem?_of_mem hr';have hjn:j<n:=by have:=(Xf.1 hj).1;rwa[Fv]at this
  rw[Qcv _ _ _ _ hjn]at hj;cases hj;have:(j+1)*i.size<=n*i.size:=Jr _ hjn;rw[Je]at this;refine⟨by simp[Qg9];omega,λv hv=>?_⟩;rw[XS]at hone;exact hone v (QaX (FQ hv))
 ·have:j<O.size:=by omega
  have hh:=heap_alloc_new w (.cells O e);simp only[World.cell?,hh];simp[Array.getD,this]
 have hmn:m<n:=by have:=(Xf.1 hm).1;rwa[Fv]at this
 rw[Qcv _ _ _ _ hmn]at hm;cases hm;rw[Kd]at hv';have hjz:j<i.size:=by
  rcases DP j i.size with h|h
  ·exact h
  rw[if_neg (by omega)]at hv';simp at hv'
 rw[if_pos hjz,UQ]at hv';obtain⟨mm,v0,hv0,hvv⟩:=Qc7 _ _ _ _ hv';have hlt:m*i.size+j<O.size:=by rw[h2];exact(Xf.1 hv0).1
 have hR:QW Z (Xp C Z w) w O[m*i.size+j] v:=by rw[hvv];exact(h3 _ _ v0 (AV hlt) hv0).den1
 have hD:=hR.toDat (by rw[XS]at hdat;exact hdat v (XB hv'));have:O.getD (m*i.size+j) undef=O[m*i.size+j]:=by simp[Array.getD,hlt]
 rw[this];exact hD.mono hI
end
def V.freeN : Nat->Nat->V->Bool
 |_,q,.own o _=>!(Nat.beq o q)|_,q,.loc o _ _=>!(Nat.beq o q)|_,q,.map o=>!(Nat.beq o q)|0,_,.agg h=>h.all V.plain|n+1,q,.agg h=>h.all (V.freeN n q)|0,_,.tup _=>f_|n+1,q,.tup h=>h.all (V.freeN n q)|0,_,.clo _ _ _=>f_|n+1,q,.clo _ fs h=>fs.all (V.freeN n q)&&h.all (V.freeN n q)|0,_,.ifc _ _=>f_|n+1,q,.ifc _ x=>V.freeN n q x|_,_,_=>t_
def V.freeC (b:Nat)(v:V):Bool:=V.freeN 4 b v
def V.free (b:Nat)(v:V):Bool:=V.freeN 5 b v
def V.kill (b:Nat)(v:V):V:=bif v.free b then v else .J
def V.killC (b:Nat)(v:V):V:=bif v.freeC b then v else .J
def Lr {a b:Nat}(h:(!(Nat.beq a b))=t_):a≠b:=by
 intro e;subst e;simp at h
section
variable {Z φ':Nat->O_ Xh}{I I':Nat->Prop}{w w':World}
def QW.freeN {b:Nat}(hφ:∀o B,o≠b->Z o=X B->φ' o=X B)(hI:∀k,I k->I' k/\w'.heap[k]? = w.heap[k]?):∀(n:Nat) {x:Value} {v:V},QW Z I w x v->V.freeN n b v=t_->QW φ' I' w' x v:=by
 have leaf:∀{x:Value} {v:V},QW Z I w x v->V.freeN 0 b v=t_->QW φ' I' w' x v:=by
  intro x v h hv;cases h with|dat h=>exact .dat (h.mono hI)|own0 o=>exact .own0 o|own o n B hB hn=>exact .own o n B (hφ o B (Lr hv) hB) hn|loc o i d B hB=>exact .loc o i d B (hφ o B (Lr hv) hB)|map o B hB=>exact .map o B (hφ o B (Lr hv) hB)|agg xs cs hs hr=>exact .dat ((QW.aggPlain hs hr hv).mono hI)|_=>simp[V.freeN]at hv
 intro n
 induction n with
 |zero=>exact leaf|succ n ih=>
  intro x v h hv;cases v with
  |agg cs=>
   obtain⟨xs,rfl,hs,hr⟩:=h.agg_inv;rw[V.freeN,XS]at hv;exact .agg xs cs hs λj x v hx O=>ih (hr j x v hx O) (hv v (XB O))
  |tup cs=>
   obtain⟨xs,rfl,hs,hr⟩:=h.tup_inv;rw[V.freeN,XS]at hv;exact .tup xs cs hs λj x v hx O=>ih (hr j x v hx O) (hv v (XB O))
  |clo fn vs us=>
   obtain⟨xs,ys,rfl,h1,h2,h3,h4⟩:=h.clo_inv;rw[V.freeN,QN,XS,XS]at hv;exact .clo fn xs ys vs us h1 h2 (λj x v hx O=>ih (h3 j x v hx O) (hv.1 v (XB O))) λj x v hx O=>ih (h4 j x v hx O) (hv.2 v (XB O))
  |ifc t u=>
   obtain⟨y,rfl,hr⟩:=h.ifc_inv;rw[V.freeN]at hv;exact .ifc t y u (ih hr hv)
  |own o k=>exact leaf h (by rw[V.freeN]at hv ⊢;exact hv)|loc o i d=>exact leaf h (by rw[V.freeN]at hv ⊢;exact hv)|map o=>exact leaf h (by rw[V.freeN]at hv ⊢;exact hv)|_=>exact leaf h rfl
def QW.freeC {b:Nat}(hφ:∀o B,o≠b->Z o=X B->φ' o=X B)(O:∀k,I k->I' k/\w'.heap[k]? = w.heap[k]?){x:Value}{v:V}(h:QW Z I w x v)(hv:v.freeC b=t_):
  QW φ' I' w' x v:=QW.freeN hφ O 4 h hv
def QW.freeV {b:Nat}(hφ:∀o B,o≠b->Z o=X B->φ' o=X B)(O:∀k,I k->I' k/\w'.heap[k]? = w.heap[k]?){x:Value}{v:V}(h:QW Z I w x v)(hv:v.free b=t_):
  QW φ' I' w' x v:=QW.freeN hφ O 5 h hv
def QW.kill {b:Nat}(hφ:∀o B,o≠b->Z o=X B->φ' o=X B)(O:∀k,I k->I' k/\w'.heap[k]? = w.heap[k]?){x:Value}{v:V}(h:QW Z I w x v):QW φ' I' w' x (v.kill b):=by
 unfold V.kill;cases hv:v.free b with|true=>exact h.freeV hφ O hv|false=>exact .dat (.J x)
def QW.killC {b:Nat}(hφ:∀o B,o≠b->Z o=X B->φ' o=X B)(O:∀k,I k->I' k/\w'.heap[k]? = w.heap[k]?){x:Value}{v:V}(h:QW Z I w x v):QW φ' I' w' x (v.killC b):=by
 unfold V.killC;cases hv:v.freeC b with|true=>exact h.freeC hφ O hv|false=>exact .dat (.J x)
end
def Ob.kill (b:Nat):Ob->Ob
 |.var h=>.var (h.map (V.killC b))|.lp l K h q=>.lp l K (h.map (V.killC b)) q|ob=>ob
def MA (b:Nat):S_->S_
 |[]=>[]|(t,v)::r=>(t,v.kill b)::MA b r
def Bj (b:Nat):H_->H_
 |[]=>[]|(o,ob)::r=>bif Nat.beq o b then Bj b r else(o,ob.kill b)::Bj b r
def St.kill (Y:St)(b:Nat):St:=⟨MA b Y.fr,Bj b Y.hp⟩
def Qa0 {b:Nat}:∀(l:S_) (t:Nat) (v:V),look (MA b l) t=X v->∃O,look l t=X O/\v=O.kill b:=by
 intro l
 induction l with
 |nil=>intro t v h;cases h
 |cons p l ih=>
  intro t v h;obtain⟨k,u⟩:=p;by_cases e:k=t
  ·subst e;rw[MA,QD]at h;cases h;exact⟨u,QD _ _ _,rfl⟩
  rw[MA,QA _ _ e]at h;rw[QA _ _ e];exact ih t v h
def Dt {b:Nat}:∀(l:H_) (t:Nat) (ob:Ob),look (Bj b l) t=X ob->t≠b/\∃ob',look l t=X ob'/\ob=ob'.kill b:=by
 intro l
 induction l with
 |nil=>intro t v h;cases h
 |cons p l ih=>
  intro t ob h;obtain⟨k,u⟩:=p;rw[Bj]at h;cases O:Nat.beq k b with
  |true=>
   rw[O]at h;have hk:=Yp O;obtain⟨h1,h2⟩:=ih t ob h;exact⟨h1,by rw[QA _ _ (by omega)];exact h2⟩
  |false=>
   rw[O]at h;by_cases e:k=t
   ·subst e;simp only[Qe]at h;rw[QD]at h;cases h;exact⟨Lr (by rw[O];rfl),u,QD _ _ _,rfl⟩
   simp only[Qe]at h;rw[QA _ _ e]at h;obtain⟨h1,h2⟩:=ih t ob h;exact⟨h1,by rw[QA _ _ e];exact h2⟩
def Ci {b:Nat}:∀(l:H_) (t:Nat) (ob:Ob),t≠b->look l t=X ob->look (Bj b l) t=X (ob.kill b):=by
 intro l
 induction l with
 |nil=>intro t v _ h;cases h
 |cons p l ih=>
  intro t ob O h;obtain⟨k,u⟩:=p;rw[Bj];by_cases e:k=t
  ·subst e;rw[QD]at h;cases h;cases hb:Nat.beq k b with|true=>exact absurd (Yp hb) O|false=>simp only[Qe];exact QD _ _ _
  rw[QA _ _ e]at h;cases hb:Nat.beq k b with|true=>simp only[Qr];exact ih t ob O h|false=>simp only[Qe];rw[QA _ _ e];exact ih t ob O h
def BQ (Z:Nat->O_ Xh)(b:Nat):Nat->O_ Xh:=λk=>if k=b then n_ else Z k
def Qha (Z:Nat->O_ Xh)(b:Nat):BQ Z b b=n_:=by simp[BQ]
def EW {Z:Nat->O_ Xh}{b k:Nat}(h:k≠b):BQ Z b k=Z k:=by simp[BQ,h]
def WH {Z:Nat->O_ Xh}{b k:Nat}{B:Xh}(h:BQ Z b k=X B):k≠b/\Z k=X B:=by
 by_cases e:k=b
 ·subst e;rw[Qha]at h;cases h
 rw[EW e]at h;exact⟨e,h⟩
def KH.kill {Z φ':Nat->O_ Xh}{I I':Nat->Prop}{w w':World}{b:Nat}(hφ:∀o B,o≠b->Z o=X B->φ' o=X B)(h:∀k,I k->I' k/\w'.heap[k]? = w.heap[k]?)
  {B:Xh} (O:∀k,B.has k->w'.heap[k]? = w.heap[k]?) {ob:Ob} (d:KH Z I w B ob):KH φ' I' w' B (ob.kill b):=by
 cases ob with
 |var vs=>
  obtain⟨cs,E,h1,h2,h0,h3⟩:=d;refine⟨cs,E,(O _ B.self).trans h1,by simpa using h2,h0,λj x v hx hv=>?_⟩;rw[Yj]at hv;obtain⟨u,hu,rfl⟩:=Yo.1 hv;exact(h3 j x u hx hu).killC hφ h
 |lp l K vs q=>
  obtain⟨tmps,D,rfl,h1,h2,h3,h4⟩:=d;refine⟨tmps,D,rfl,h1,(O _ B.self).trans h2,by simpa using h3,λj x v hx hv=>?_⟩;rw[Yj]at hv;obtain⟨u,hu,rfl⟩:=Yo.1 hv;exact(h4 j x u hx hu).killC hφ h
 |arr z rs=>exact YW.mono h (O _ B.self) d|map l=>exact EA.mono h (O _ B.self) d|grp z l lk=>exact UX.mono h O d|mapX bm clock L l=>exact Ft.mono h (O _ B.self) d|itr bm since seen cur=>exact Qc0.mono (O _ B.self) d|itr0=>obtain⟨s,c,h1⟩:=d;exact⟨s,c,(O _ B.self).trans h1.1,h1.2⟩
 |tbl A z rs=>exact Ch.mono h O d|nst x v=>exact Qc1.mono O d|scr D H=>exact Qc2.mono O d
def Ob.Nil.kill {ob:Ob}{b:Nat}(h:ob.Nil):(ob.kill b).Nil:=by cases ob<;>first|exact h|exact h.elim
section
variable {C:XC}{Z:Nat->O_ Xh}{Y:St}{a:Act}{w:World}
def Xp.of_del {k b:Nat}(h:Xp C Z w k):Xp C (BQ Z b) w k:=⟨h.1,h.2.1,λo B O=>h.2.2 o B (WH O).2⟩
def RR.kill (h:RR C Z Y a w)(b:Nat):RR C (BQ Z b) (Y.kill b) a w:=by
 have hI:∀k,Xp C Z w k->Xp C (BQ Z b) w k/\w.heap[k]? = w.heap[k]? := λk hk=>⟨hk.of_del,rfl⟩;have hφ:∀o B,o≠b->Z o=X B->BQ Z b o=X B:=λo B ho O=>by rw[EW ho];exact O
 refine⟨h.os,h.tape,h.output,h.size,h.kept,λo o' B B' k h1 h2=>h.inj o o' B B' k (WH h1).2 (WH h2).2,?_,λo B k O=>h.lt o B k (WH O).2,λo B k O=>h.new o B k (WH O).2,⟨λo B h1 O=>h.stay.1 o B h1 (WH O).2,λo ob B h1 ho O=>by obtain⟨hne,ob',h2,_⟩:=Dt _ _ _ ho;rw[EW hne];exact h.stay.2 o ob' B h1 h2 O⟩,h.tmps,h.defers.mono hI,?_,?_⟩
 ·intro o B O;obtain⟨h1,h2⟩:=WH O;obtain⟨ob,hob⟩:=h.dom o B h2;exact⟨_,Ci _ _ _ h1 hob⟩
 ·intro t v hv;obtain⟨v',hv',rfl⟩:=Qa0 _ _ _ hv;obtain⟨x,hx,hr⟩:=h.frame t v' hv';exact⟨x,hx,hr.kill hφ hI⟩
 intro o ob hob;obtain⟨hne,ob',hob',rfl⟩:=Dt _ _ _ hob;rcases h.heap o ob' hob' with⟨B,O,hr⟩|⟨h1,hz⟩
 ·exact .inl ⟨B,hφ o B hne O,hr.kill hφ hI λ_ _=>rfl⟩
 exact .inr ⟨by rw[EW hne];exact h1,hz.kill⟩
def RR.say (h:RR C Z Y a w){t:Nat}{x:Value}{v:V}(hx:a.tmps[t]? = X x)(hr:QW Z (Xp C Z w) w x v):RR C Z (Y.put t v) a w:=by
 refine⟨h.os,h.tape,h.output,h.size,h.kept,h.inj,h.dom,h.lt,h.new,h.stay,h.tmps,h.defers,?_,h.heap⟩;intro t' v' O;by_cases e:t=t'
 ·subst e;rw[St.put,QD]at O;cases O;exact⟨x,hx,hr⟩
 rw[St.put,QA _ _ e]at O;exact h.frame t' v' O
def RR.setNil (h:RR C Z Y a w){b z:Nat}(hlt:b<621)(hb:look Y.hp b=n_):RR C Z (Y.set b (.arr z [])) a w:=by
 have hn:=h.none_of_look hb;refine⟨h.os,h.tape,h.output,h.size,h.kept,h.inj,?_,h.lt,h.new,⟨h.stay.1,λo ob B hge ho hB=>h.stay.2 o ob B hge (by rwa[Y.look_set_other _ (by omega)]at ho) hB⟩,h.tmps,h.defers,h.frame,?_⟩
 ·intro o B hB;by_cases e:o=b
  ·subst e;exact⟨_,Y.look_set_same _ _⟩
  obtain⟨ob,h1⟩:=h.dom o B hB;exact⟨ob,by rw[Y.look_set_other _ (Ne.symm e)];exact h1⟩
 intro o ob O;by_cases e:o=b
 ·subst e;rw[Y.look_set_same]at O;cases O;exact .inr ⟨hn,rfl⟩
 rw[Y.look_set_other _ (Ne.symm e)]at O;exact h.heap o ob O
end
section
variable {C:XC}{Y:St}{a:Act}{w:World}
def R.kill (h:R C Y a w)(b:Nat):R C (Y.kill b) a w:=let ⟨Z,hr⟩:=h;⟨_,hr.kill b⟩
def R.adopt (h:R C Y a w){t b z:Nat}(hlt:b<621)(ht:look Y.fr t=X (.lit (.slice n_ 0 0)))(hb:look Y.hp b=n_):R C ((Y.set b (.arr z [])).put t (.own b 0)) a w:=by
 obtain⟨Z,hr⟩:=h;obtain⟨x,hx,O⟩:=hr.frame t _ ht;have:=O.lit_inv;subst this;exact⟨Z,(hr.setNil hlt hb).say hx (.own0 b)⟩
def Ps (fr:S_):S_->Prop
 |[]=>True|(t,v)::r=>look fr t=X v/\Ps fr r
def Ps.look {fr:S_}:∀{l:S_},Ps fr l->∀t v,Vm.look l t=X v->Vm.look fr t=X v:=by
 intro l
 induction l with
 |nil=>intro _ t v h;cases h
 |cons p l ih=>
  intro ⟨O,h2⟩ t v h;obtain⟨k,u⟩:=p;by_cases e:k=t
  ·subst e;rw[QD]at h;cases h;exact O
  rw[QA _ _ e]at h;exact ih h2 t v h
end
def XX : L_ Nat->Nat->Bool
 |[],_=>f_|k::r,t=>Nat.beq k t||XX r t
def V.inC (ks:L_ Nat):V->Bool
 |.own o _=>XX ks o|.loc o _ _=>XX ks o|.map o=>XX ks o|.agg h=>h.all V.plain|.tup _=>f_|.clo _ _ _=>f_|.ifc _ x=>x.inC ks|_=>t_
def V.inK (ks:L_ Nat):V->Bool
 |.agg h=>h.all (V.inC ks)|.clo _ fs h=>fs.all (V.inC ks)&&h.all (V.inC ks)|v=>v.inC ks
def Ob.inK (ks:L_ Nat):Ob->Bool
 |.var h=>h.all (V.inK ks)|.lp _ _ h _=>h.all (V.inK ks)|_=>t_
def QW.inC {Z φ':Nat->O_ Xh}{I I':Nat->Prop}{w:World}{ks:L_ Nat}(hφ:∀o B,XX ks o=t_->Z o=X B->φ' o=X B)(hI:∀k,I k->I' k){x:Value}{v:V}
  (h:QW Z I w x v) (O:v.inC ks=t_):QW φ' I' w x v:=by
 induction h with|dat h=>exact .dat (h.mono λk hk=>⟨hI k hk,rfl⟩)|own0 o=>exact .own0 o|own o n B hB hn=>exact .own o n B (hφ o B O hB) hn|loc o i d B hB=>exact .loc o i d B (hφ o B O hB)|map o B hB=>exact .map o B (hφ o B O hB)|ifc t x v _ ih=>exact .ifc t x v (ih O)|agg xs cs hs hr _=>exact .dat ((QW.aggPlain hs hr O).mono λk hk=>⟨hI k hk,rfl⟩)|_=>simp[V.inC]at O
def QW.inK {Z φ':Nat->O_ Xh}{I I':Nat->Prop}{w:World}{ks:L_ Nat}(hφ:∀o B,XX ks o=t_->Z o=X B->φ' o=X B)(hI:∀k,I k->I' k){x:Value}{v:V}
  (h:QW Z I w x v) (hv:v.inK ks=t_):QW φ' I' w x v:=by
 cases v with
 |agg cs=>
  obtain⟨xs,rfl,hs,hr⟩:=h.agg_inv;rw[V.inK,XS]at hv;exact .agg xs cs hs λj x v hx O=>(hr j x v hx O).inC hφ hI (hv v (XB O))
 |clo fn vs us=>
  obtain⟨xs,ys,rfl,h1,h2,h3,h4⟩:=h.clo_inv;rw[V.inK,QN,XS,XS]at hv;exact .clo fn xs ys vs us h1 h2 (λj x v hx O=>(h3 j x v hx O).inC hφ hI (hv.1 v (XB O))) λj x v hx O=>(h4 j x v hx O).inC hφ hI (hv.2 v (XB O))
 |_=>exact h.inC hφ hI hv
def LB (hp:H_):H_->Prop
 |[]=>True|(o,ob)::r=>look hp o=X ob/\LB hp r
def LB.look {hp:H_}:∀{l:H_},LB hp l->∀t v,Vm.look l t=X v->Vm.look hp t=X v:=by
 intro l
 induction l with
 |nil=>intro _ t v h;cases h
 |cons p l ih=>
  intro ⟨O,h2⟩ t v h;obtain⟨k,u⟩:=p;by_cases e:k=t
  ·subst e;rw[QD]at h;cases h;exact O
  rw[QA _ _ e]at h;exact ih h2 t v h
def keys {α:Type}:L_ (Nat×α)->L_ Nat
 |[]=>[]|(k,_)::r=>k::keys r
def Qc8 {α:Type}:∀{l:L_ (Nat×α)} {t:Nat} {v:α},look l t=X v->XX (keys l) t=t_:=by
 intro l
 induction l with
 |nil=>intro t v h;cases h
 |cons p l O=>
  intro t v h;obtain⟨k,u⟩:=p;by_cases e:k=t
  ·subst e;simp[keys,XX]
  rw[QA _ _ e]at h;simp[keys,XX,O h]
def QtE {α:Type}:∀{l:L_ (Nat×α)} {t:Nat},XX (keys l) t=t_->∃v,look l t=X v:=by
 intro l
 induction l with
 |nil=>intro t h;cases h
 |cons p l O=>
  intro t h;obtain⟨k,u⟩:=p;by_cases e:k=t
  ·subst e;exact⟨u,QD _ _ _⟩
  rw[QA _ _ e];simp only[keys,XX,KG]at h;rcases h with h|h
  ·exact absurd (Yp h) e
  exact O h
def St.closed (Y:St):Bool:=Y.fr.all (λp=>p.2.inK (keys Y.hp))&&Y.hp.all (λp=>p.2.inK (keys Y.hp))
def JX {α:Type}:∀{l:L_ (Nat×α)} {t:Nat} {v:α},look l t=X v->(t,v)∈l:=by
 intro l
 induction l with
 |nil=>intro t v h;cases h
 |cons p l O=>
  intro t v h;obtain⟨k,u⟩:=p;by_cases e:k=t
  ·subst e;rw[QD]at h;cases h;exact Yc
  rw[QA _ _ e]at h;exact Ys _ (O h)
section
variable {C:XC}{Y:St}{a:Act}{w:World}
def R.to (h:R C Y a w){fr:S_}{hp:H_}(hf:Ps Y.fr fr)(hh:LB Y.hp hp)(hk:St.closed ⟨fr,hp⟩=t_):R C ⟨fr,hp⟩ a w:=by
 obtain⟨Z,hr⟩:=h;rw[St.closed,QN,XS,XS]at hk;let φ':Nat->O_ Xh:=λo=>if XX (keys hp) o=t_ then Z o else n_;have hs:∀o B,φ' o=X B->XX (keys hp) o=t_/\Z o=X B:=by
  intro o B hB;simp only[φ']at hB;split at hB
  ·exact⟨by assumption,hB⟩
  cases hB
 have hφ:∀o B,XX (keys hp) o=t_->Z o=X B->φ' o=X B:=λo B h1 h2=>by simp only[φ',h1,if_true];exact h2
 have hI:∀k,Xp C Z w k->Xp C φ' w k:=λk hk=>⟨hk.1,hk.2.1,λo B hB=>hk.2.2 o B (hs o B hB).2⟩;refine⟨φ',hr.os,hr.tape,hr.output,hr.size,hr.kept,λo o' B B' k h1 h2=>hr.inj o o' B B' k (hs _ _ h1).2 (hs _ _ h2).2,λo B hB=>QtE (hs o B hB).1,
  λo B k hB=>hr.lt o B k (hs o B hB).2,λo B k hB=>hr.new o B k (hs o B hB).2,⟨λo B h1 hB=>hr.stay.1 o B h1 (hs o B hB).2,λo ob B h1 ho hB=>hφ o B (Qc8 ho) (hr.stay.2 o ob B h1 (hh.look o ob ho) hB)⟩,hr.tmps,hr.defers.mono λk hk=>⟨hI k hk,rfl⟩,?_,?_⟩
 ·intro t v hv;obtain⟨x,hx,O⟩:=hr.frame t v (hf.look t v hv);exact⟨x,hx,O.inK hφ hI (hk.1 (t,v) (JX hv))⟩
 intro o ob hob;have hm:=Qc8 hob;rcases hr.heap o ob (hh.look o ob hob)with⟨B,hB,O⟩|⟨h1,h2⟩
 ·refine .inl ⟨B,hφ o B hm hB,?_⟩;have hok:=hk.2 (o,ob) (JX hob);cases ob with
  |var cs=>
   obtain⟨xs,E,h1,h2,h0,h3⟩:=O;rw[Ob.inK,XS]at hok;exact⟨xs,E,h1,h2,h0,λj x v hx hv=>(h3 j x v hx hv).inK hφ hI (hok v (XB hv))⟩
  |lp l K vs q=>
   obtain⟨tmps,D,e1,h1,h2,h3,h4⟩:=O;rw[Ob.inK,XS]at hok;exact⟨tmps,D,e1,h1,h2,h3,λj x v hx hv=>(h4 j x v hx hv).inK hφ hI (hok v (XB hv))⟩
  |arr z rs=>exact YW.mono (λk hk=>⟨hI k hk,rfl⟩) rfl O|map l=>exact EA.mono (λk hk=>⟨hI k hk,rfl⟩) rfl O|grp z l lk=>exact UX.mono (λk hk=>⟨hI k hk,rfl⟩) (λ_ _=>rfl) O|mapX bm clock L l=>exact Ft.mono (λk hk=>⟨hI k hk,rfl⟩) rfl O|itr bm since seen cur=>exact O|itr0=>exact O|tbl A z rs=>exact Ch.mono (λk hk=>⟨hI k hk,rfl⟩) (λ_ _=>rfl) O|nst x v=>exact O|scr D H=>exact O
 exact .inr ⟨by simp only[φ',hm,if_true];exact h1,h2⟩
end
def QiQ (Z:Nat->O_ Xh)(I:Nat->Prop)(w:World)(x:Value)(z:Nat)(us:L_ (L_ V)):Prop:=
 (∃a cap,x=.slice a 0 cap/\us=[])\/
 ∃(p:Addr) (cap:Nat) (h:L_ Value),x=.slice (X p) us.length cap/\h.length=us.length*z/\(∀(j:Nat) u,h[j]? = X u->w.cell? (p.add j)=X u)/\(∀u∈h,u.oneCell'=t_)/\
  (∀r∈us,Bv z r)/\∀(i:Nat) r,us[i]? = X r->∀(j:Nat) v,r[j]? = X v->∃u,h[i*z+j]? = X u/\XG I w u v
def QW.source_sl {Z:Nat->O_ Xh}{I:Nat->Prop}{w:World}{x:Value}{z:Nat}{us:L_ (L_ V)}(h:QW Z I w x (.sl z us)):QiQ Z I w x z us:=by
 rcases h.sl_inv with⟨a,cap,rfl,rfl⟩|⟨b,off,cap,rfl,hI,hcap,hok,c,hc,hd⟩
 ·exact .inl ⟨a,cap,rfl,rfl⟩
 refine .inr ⟨⟨b,off,n_⟩,cap,(List.range (us.length*z)).map c,rfl,by simp,λj u hu=>?_,λu hu=>?_,hok,λi r hi j v hj=>?_⟩
 ·simp only[Yj,Yo,Xf,QeC,Qcs]at hu;obtain⟨_,⟨hj,rfl⟩,rfl⟩:=hu;rw[Addr.add_lit];exact hc j hj
 ·simp only[Yt,CU]at hu;obtain⟨k,hk,rfl⟩:=hu;have hz:0<z:=by rcases Nat.eq_zero_or_pos z with h|h;(· subst h;simp at hk);exact h
  have hi:k / z<us.length:=(Nat.div_lt_iff_lt_mul hz).2 hk;have O:=hok us[k / z] (Xc _);have hj:k % z<(us[k / z]).length:=by rw[O.1];exact Nat.mod_lt _ hz
  have hD:=hd (k / z) _ (Qv hi) (k % z) _ (Qv hj);rw[Nat.mul_comm,Nat.div_add_mod]at hD;exact((QW.dat (Z:=Z) hD).oneCell (O.2 _ (Xc _))).2
 have hin:i<us.length:=(Xf.1 hi).1;have hjz:j<z:=by have:=(Xf.1 hj).1;rwa[(hok r (XB hi)).1]at this
 have hlt:i*z+j<us.length*z:=by
  have:(i+1)*z<=us.length*z:=Jr _ hin;rw[Je]at this;omega
 exact⟨c (i*z+j),by simp[hlt],hd i r hi j v hj⟩
def QW.source_own {C:XC}{Z:Nat->O_ Xh}{Y:St}{a:Act}{w:World}(hr:RR C Z Y a w){x:Value}{b n z:Nat}{rs:L_ (L_ V)}(h:QW Z (Xp C Z w) w x (.own b n))
  (hb:look Y.hp b=X (.arr z rs)) (hn:n<=rs.length):QiQ Z (Xp C Z w) w x z (rs.take n):=by
 rcases h.own_inv with⟨rfl,rfl⟩|⟨B,hB,hcap,rfl⟩
 ·exact .inl ⟨n_,0,rfl,by simp⟩
 obtain⟨rfl,hrl,hok,cs,E,h1,h2,h3⟩:=hr.block hB hb;have hle2:B.off+n*B.z<=cs.size:=Yq (Nat.add_le_add_left (Jr _ hcap) _) h2;have hlen:(rs.take n).length=n:=by simp;omega
 have get:∀(i:Nat) r,(rs.take n)[i]? = X r->rs[i]? = X r/\i<n:=by
  intro i r O;rw[Kd]at O;by_cases h:i<n
  ·rw[if_pos h]at O;exact⟨O,h⟩
  rw[if_neg h]at O;simp at O
 refine .inr ⟨⟨B.b,B.off,n_⟩,B.cap,(cs.toList.drop B.off).take (n*B.z),by rw[hlen],by simp[hlen];omega,λj u hu=>?_,λu hu=>?_,λr hr'=>hok r (FQ hr'),λi r O j v hj=>?_⟩
 ·rw[Kd]at hu;by_cases h:j<n*B.z
  ·rw[if_pos h]at hu;rw[UQ]at hu;simp[Addr.add_lit,World.cell?,h1];simpa using hu
  rw[if_neg h]at hu;simp at hu
 ·obtain⟨k,hk⟩:=List.getElem?_of_mem hu;rw[Kd]at hk;by_cases h:k<n*B.z
  ·rw[if_pos h]at hk;have hz:0<B.z:=by rcases Nat.eq_zero_or_pos B.z with h'|h';(· rw[h']at h;omega);exact h'
   have O:k / B.z<rs.length:=Ez ((Nat.div_lt_iff_lt_mul hz).2 h) hn;have hrow:=hok rs[k / B.z] (Xc _);have hj:k % B.z<(rs[k / B.z]).length:=by rw[hrow.1];exact Nat.mod_lt _ hz
   obtain⟨y,hy,hD⟩:=h3 (k / B.z) _ (Qv O) (k % B.z) _ (Qv hj);rw[Nat.mul_comm,Nat.div_add_mod]at hy;have:y=u:=by
    have e:cs[B.off+k]? = X u:=by rw[UQ]at hk;simpa using hk
    rw[e]at hy;exact(Option.some.inj hy).symm
   subst this;exact((QW.dat (Z:=Z) hD).oneCell (hrow.2 _ (Xc _))).2
  rw[if_neg h]at hk;simp at hk
 obtain⟨hi',hin⟩:=get i r O;obtain⟨y,hy,hD⟩:=h3 i r hi' j v hj;have hjz:j<B.z:=by have:=(Xf.1 hj).1;rwa[(hok r (XB hi')).1]at this
 have hlt:i*B.z+j<n*B.z:=by
  have:(i+1)*B.z<=n*B.z:=Jr _ hin;rw[Je]at this;omega
 exact⟨y,by rw[Kd,if_pos hlt,UQ];simpa using hy,hD⟩
def QiR {P:Program}{T U ty e e':TypeId}{base:O_ Addr}{n c:Nat}{x:Value}{w:World}{i:TypeInfo}(h:P.underlying T=X (.slice e))(O:P.underlying U=X (.slice e'))(hi:P.info? e=X i):
  (Builtin.append_ #[T,U] ty #[.slice base n c,x]).run P w=(Builtin.append_ #[T,T] ty #[.slice base n c,x]).run P w:=by
 unfold Builtin.append_;simp only[CS,List.getElem?_cons_zero,Qj9,Xl,run_underlying h,Xo,sizeOf,typeInfo,run_program,hi,Xx,run_underlying O]
def NJ {P:Program}{T ty e:TypeId}{w:World}{i:TypeInfo}(O:P.underlying T=X (.slice e))(hi:P.info? e=X i)(base a:O_ Addr)(n cap c:Nat)(h:n<=cap):
  (Builtin.append_ #[T,T] ty #[.slice base n cap,.slice a 0 c]).run P w=.ok (.slice base n cap) w:=by
 cases base<;>cases a<;>simp[Builtin.append_,run_underlying O,sizeOf,typeInfo,hi,Builtin.lenOf,h,Builtin.firstCells,loadCells,loadCellsFrom,storeCells]
def QeH {P:Program}{T ty e E:TypeId}{w:World}{i:TypeInfo}(hT:P.underlying T=X (.slice e))(hi:P.info? e=X i)(g off O sCap:Nat)(cur:Array Value)(hg:w.heap[g]? = X (.cells cur E (0,0)))
  (a:Addr) (m c:Nat) (h:L_ Value) (hl:h.length=m*i.size) (hnews:∀(j:Nat) u,h[j]? = X u->w.cell? (a.add j)=X u) (h1:∀u∈h,u.oneCell'=t_)
  (hroom:O+m<=sCap) (hfit:off+O*i.size+h.length<=cur.size):
  (Builtin.append_ #[T,T] ty #[.slice (X ⟨g,off,n_⟩) O sCap,.slice (X a) m c]).run P w =
   .ok (.slice (X ⟨g,off,n_⟩) (O+m) sCap) (w.setRow g (cur.toList.take (off+O*i.size)++h++cur.toList.drop (off+O*i.size+h.length)).toArray):=by
 have hf:(Builtin.firstCells i.size m (.slice (X a) m c)).run P w=.ok h.toArray w:=by
  have:=run_loadCells_list (P:=P) w a h hnews;rw[hl]at this;simpa[Builtin.firstCells] using this
 have hst:=run_storeCells_at P g (off+O*i.size) E h 0 cur w hg (by simpa using hfit) h1;simp only[My]at hst;simp[Builtin.append_,run_underlying hT,sizeOf,typeInfo,hi,Builtin.lenOf,hroom,hf,Addr.add_lit,hst]
section
variable {P:Program}{C:XC}{Y:St}{o:Oper}
def St.app (Y:St)(b z d n:Nat)(rs:L_ (L_ V)):St:=((Y.kill b).set b (.arr z rs)).put d (.own b n)
def RR.moved {Z:Nat->O_ Xh}{a:Act}{w:World}(hr:RR C Z Y a w){b cap z:Nat}{E:TypeId}{cells:Array Value}{rs:L_ (L_ V)}(hb:b<621)(w':World)
  (hw:w'=w.drew.alloc (.cells cells E)) (hrep:YW (Xp C Z w) w' ⟨w.heap.size,cap,z,[],0⟩ z rs):
  RR C (ext (BQ Z b) b ⟨w.heap.size,cap,z,[],0⟩) ((Y.kill b).set b (.arr z rs)) a w':=by
 subst hw;have hk:=hr.kill b;have hk':RR C (BQ Z b) (Y.kill b) a w.drew:=hk.step rfl rfl rfl (Yk _) (λ_ _=>rfl);have hnone:look (Y.kill b).hp b=n_:=by
  cases h:look (Y.kill b).hp b with|none=>rfl|some ob=>exact absurd rfl (Dt _ _ _ h).1
 refine hk'.alloc (cap:=cap) (z:=z) hnone hb ?_;refine YW.mono (w:=w.drew.alloc (.cells cells E)) ?_ rfl hrep;intro k O;refine⟨?_,rfl⟩;have:=hk'.imm_alloc b cap z (.cells cells E) (Qha _ _) k ⟨O.1,O.2.1,λo B hB=>O.2.2 o B (WH hB).2⟩;exact this.1
def RR.reset {Z:Nat->O_ Xh}{a:Act}{w:World}(h:RR C Z Y a w)(b:Nat)(ob:Ob)(hex:∃ob0,look Y.hp b=X ob0)(hob:(∃B,Z b=X B/\KH Z (Xp C Z w) w B ob)\/(Z b=n_/\ob.Nil)):
  RR C Z ((Y.kill b).set b ob) a w:=by
 have hI:∀k,Xp C Z w k->Xp C Z w k/\w.heap[k]? = w.heap[k]? := λk hk=>⟨hk,rfl⟩;have hφ:∀o B,o≠b->Z o=X B->Z o=X B:=λ_ _ _ h=>h;refine⟨h.os,h.tape,h.output,h.size,h.kept,h.inj,?_,h.lt,h.new,⟨h.stay.1,λo ob' B hge ho hB=>by
  by_cases e:o=b
  ·subst e;obtain⟨ob0,h0⟩:=hex;exact h.stay.2 o ob0 B hge h0 hB
  rw[St.look_set_other _ _ (Ne.symm e)]at ho;obtain⟨_,ob2,h2,_⟩:=Dt _ _ _ ho;exact h.stay.2 o ob2 B hge h2 hB⟩,h.tmps,h.defers,?_,?_⟩
 ·intro o B hB;by_cases e:o=b
  ·subst e;exact⟨ob,St.look_set_same _ _ _⟩
  obtain⟨ob',h'⟩:=h.dom o B hB;exact⟨_,by rw[St.look_set_other _ _ (Ne.symm e)];exact Ci _ _ _ e h'⟩
 ·intro t v hv;obtain⟨v',hv',rfl⟩:=Qa0 _ _ _ hv;obtain⟨x,hx,hr⟩:=h.frame t v' hv';exact⟨x,hx,hr.kill hφ hI⟩
 intro o ob' O;by_cases e:o=b
 ·subst e;rw[St.look_set_same]at O;cases O;exact hob
 rw[St.look_set_other _ _ (Ne.symm e)]at O;obtain⟨hne,ob2,hob2,rfl⟩:=Dt _ _ _ O;rcases h.heap o ob2 hob2 with⟨B,hB,hr⟩|⟨h1,hz⟩
 ·exact .inl ⟨B,hB,hr.kill hφ hI λ_ _=>rfl⟩
 exact .inr ⟨h1,hz.kill⟩
def St.set_kill (Y:St)(b:Nat)(ob:Ob):(Y.set b ob).kill b=Y.kill b:=by
 simp[St.set,St.kill,Bj]
def Qa1 {I:Nat->Prop}{w:World}{z n:Nat}{rs us:L_ (L_ V)}{olds O rest:L_ Value}(hnl:rs.length=n)(hol:olds.length=n*z)(hok:∀r∈rs,Bv z r)(huk:∀r∈us,Bv z r)(hul:O.length=us.length*z)
  (ho:∀(i:Nat) r,rs[i]? = X r->∀(j:Nat) v,r[j]? = X v->∃u,olds[i*z+j]? = X u/\XG I w u v)
  (hu:∀(i:Nat) r,us[i]? = X r->∀(j:Nat) v,r[j]? = X v->∃u,O[i*z+j]? = X u/\XG I w u v):
  (∀r∈rs++us,Bv z r)/\∀(i:Nat) r,(rs++us)[i]? = X r->∀(j:Nat) v,r[j]? = X v->∃u,(olds++(O++rest))[i*z+j]? = X u/\XG I w u v:=by
 refine⟨λr hr=>?_,λi r hi j v hj=>?_⟩
 ·rcases YT.1 hr with h|h
  ·exact hok r h
  exact huk r h
 by_cases hin:i<n
 ·rw[Jh (by omega)]at hi;obtain⟨u,h1,h2⟩:=ho i r hi j v hj;exact⟨u,by rw[Jh (Xf.1 h1).1];exact h1,h2⟩
 rw[Kc (by omega)]at hi;obtain⟨u,h1,h2⟩:=hu _ r hi j v hj;have e:i*z+j=olds.length+((i-rs.length)*z+j):=by
  have:i*z=n*z+(i-n)*z:=by rw[<-Je];congr 1;omega
  rw[hol,hnl];omega
 refine⟨u,?_,h2⟩;rw[e,Kc (by omega),Nat.add_sub_cancel_left,Jh (Xf.1 h1).1];exact h1
def QnH {T U d e e' z z' by_ by' b n m:Nat}{x y:Operand}{rs us rs':L_ (L_ V)}{zs:L_ V}(ho:o.op=.call { callee:=.builtin .append,args:=#[x,y],argTypes:=#[T,U] })
  (hd:o.dst=X d) (hn:B_ d C) (hx:Y.opd x=X (.own b n)) (hb:look Y.hp b=X (.arr z rs)) (hb1:Nat.ble 621 b=f_) (hnl:rs.length=n)
  (hT:YD P T=X (e,z,by_)) (hU:YD P U=X (e',z',by')) (hz:XY P e=X zs) (hzl:zs.length=z) (hz0:z≠0) (hsm:n+us.length<=140737488355328) (hbytes:(n+us.length)*by_<=140737488355328)
  (hy:∀Z a w,RR C Z Y a w->QiQ Z (Xp C Z w) w (a.eval y) z us) (he:rs++us=rs') (hm:n+us.length=m):∀Z a w,RR C Z Y a w->∃v w' φ',(execOp a.eval o).run P w=.ok (.value v) w'/\RR C φ' (Y.app b z d m rs') (a.put o.dst v) w':=by
 intro Z a w hr;subst hnl he hm;obtain⟨hu,i,hi,rfl,rfl⟩:=KI hT;obtain⟨hu',_⟩:=KI hU;obtain⟨i',zv,hi',hz',hmap⟩:=FU hz;rw[hi]at hi';cases hi';have hb2:b<621:=by
  rcases DP b 621 with h|h
  ·exact h
  rw[Vp h]at hb1;cases hb1
 have hzs:zv.cells.size=i.size:=by rw[<-hzl,<-hmap];simp
 have hpos:0<i.size:=Nat.pos_of_ne_zero hz0;have hexec:∀base n c v w',a.eval x=.slice base n c->(Builtin.append_ #[T,T] o.type #[.slice base n c,a.eval y]).run P w=.ok v w'->(execOp a.eval o).run P w=.ok (.value v) w':=by
  intro base n c v w' h1 h;simp only[execOp,ho,resolve,invoke,builtin,Xl,Xx,Xo,List.map_toArray,GC,List.map_nil,h1,QiR hu hu' hi,h]
 have hown:=(hr.opd hx).own_inv;by_cases h0:us=[]
 ·
  subst h0;have hsrc:∃p c,a.eval y=.slice p 0 c:=by
   rcases hy Z a w hr with⟨p,c,h,_⟩|⟨p,c,_,h,_⟩
   ·exact⟨p,c,h⟩
   exact⟨X p,c,by simpa using h⟩
  obtain⟨p,c,hp⟩:=hsrc;simp only[Qcr,NG,My];rcases hown with⟨h1,h2⟩|⟨B,hB,hcap,h1⟩
  ·refine⟨.slice n_ 0 0,w,Z,hexec n_ 0 0 _ _ h1 (by rw[hp];exact NJ hu hi n_ p 0 0 c (Yk _)),?_⟩;have:=hr.reset b (.arr i.size rs) ⟨_,hb⟩ (by
    rcases hr.heap b _ hb with⟨B,hB,hrep⟩|hn
    ·exact .inl ⟨B,hB,hrep⟩
    exact .inr hn)
   rw[hd,h2];exact this.put (XT hn) (.own0 b)
  refine⟨.slice (X ⟨B.b,B.off,n_⟩) rs.length B.cap,w,Z,hexec _ _ _ _ _ h1 (by rw[hp];exact NJ hu hi _ p _ _ c hcap),?_⟩;have:=hr.reset b (.arr i.size rs) ⟨_,hb⟩ (.inl ⟨B,hB,hr.block hB hb⟩);rw[hd];exact this.put (XT hn) (.own b _ B hB hcap)
 have hpos2:0<us.length:=List.length_pos_iff.2 h0;obtain⟨p,c,O,hyv,hnews,hcells,hone,hokU,hrowU⟩:∃(p:Addr) (cap:Nat) (O:L_ Value),a.eval y=.slice (X p) us.length cap/\O.length=us.length*i.size/\(∀(j:Nat) u,O[j]? = X u->w.cell? (p.add j)=X u)/\(∀u∈O,u.oneCell'=t_)/\
   (∀r∈us,Bv i.size r)/\∀(k:Nat) r,us[k]? = X r->∀(j:Nat) v,r[j]? = X v->∃u,O[k*i.size+j]? = X u/\XG (Xp C Z w) w u v:=by
  rcases hy Z a w hr with⟨_,_,_,h⟩|h
  ·exact absurd h h0
  exact h
 rcases hown with⟨h1,h2⟩|⟨B,hB,hcap,h1⟩
 ·
  have hrs:rs=[]:=QnG h2;subst hrs;have hrun:=run_append_nil (P:=P) w T o.type e i zv hu hi hz' p us.length c O hnews hcells hpos2 (by omega) (by
   have:us.length*i.bytes<=140737488355328:=by simpa using hbytes
   omega)
  have hge:=grownCap_ge w us.length 0 e;simp only[FR,NG,Gp];refine⟨_,_,ext (BQ Z b) b ⟨w.heap.size,grownCap w us.length 0 e,i.size,[],0⟩,hexec n_ 0 0 _ _ h1 (by rw[hyv];exact hrun),?_⟩;rw[hd];obtain⟨g1,g2⟩:=Qa1 (I:=Xp C Z w) (w:=w) (n:=0) (rs:=[]) (olds:=[]) (rest:=(Builtin.zeroCells zv.cells (grownCap w us.length 0 e-us.length)).toList) rfl (by simp) (by simp) hokU hnews (by simp) hrowU;have hmv:=hr.moved (b:=b) (cap:=grownCap w us.length 0 e) (z:=i.size) (E:=e) (cells:=O.toArray++Builtin.zeroCells zv.cells (grownCap w us.length 0 e-us.length)) (rs:=us) hb2 _ rfl
   (YW.mk0 rfl rfl hge hokU _ e (heap_alloc_new w.drew _) (by simp[size_zeroCells,hzs,hnews,<-Je];congr 1;omega) λk r hk j v hj=>by
    obtain⟨u,hu1,hu2⟩:=g2 k r (by simpa using hk) j v hj;refine⟨u,?_,XG.mono (w:=w) (λk hk=>⟨hk,Below.heap_alloc w.drew _ _ hk.1⟩) hu2⟩;rw[<-hu1];simp[<-QfC])
  exact hmv.put (XT hn) (.own b us.length ⟨w.heap.size,_,i.size,[],0⟩ (XQ _ _ _) hge)
 obtain⟨hBz,hrl,hok,cs,E,e1,e2,e3⟩:=hr.block hB hb;have hle2:B.off+rs.length*i.size<=cs.size:=Yq (Nat.add_le_add_left (Jr _ hrl) _) e2;have hol:((cs.toList.drop B.off).take (rs.length*i.size)).length=rs.length*i.size:=by simp;omega
 have hold:∀(k:Nat) r,rs[k]? = X r->∀(j:Nat) v,r[j]? = X v->∃u,((cs.toList.drop B.off).take (rs.length*i.size))[k*i.size+j]? = X u/\XG (Xp C Z w) w u v:=λk r hk j v hj=>by
  obtain⟨u,hu1,hu2⟩:=e3 k r hk j v hj;have hkl:k<rs.length:=(Xf.1 hk).1;have hjz:j<i.size:=by have:=(Xf.1 hj).1;rwa[(hok r (XB hk)).1]at this
  have hlt:k*i.size+j<rs.length*i.size:=by
   have:(k+1)*i.size<=rs.length*i.size:=Jr _ hkl;rw[Je]at this;omega
  exact⟨u,by rw[Kd,if_pos hlt,UQ];simpa using hu1,hu2⟩
 by_cases hroom:rs.length+us.length<=B.cap
 ·
  have hfit:B.off+rs.length*i.size+O.length<=cs.size:=by
   refine Yq ?_ e2;rw[hnews,OA,<-Je];exact Nat.add_le_add_left (Jr _ hroom) _
  have hrun:=QeH (P:=P) (ty:=o.type) hu hi B.b B.off rs.length B.cap cs e1 p us.length c O hnews hcells hone hroom hfit;refine⟨_,_,Z,hexec _ _ _ _ _ h1 (by rw[hyv];exact hrun),?_⟩;obtain⟨g1,g2⟩:=Qa1 (I:=Xp C Z w) (w:=w) (n:=rs.length) (rs:=rs) (olds:=(cs.toList.drop B.off).take (rs.length*i.size)) (rest:=cs.toList.drop (B.off+rs.length*i.size+O.length)) rfl
   hol hok hokU hnews hold hrowU
  have hne:∀k,Xp C Z w k->k≠B.b:=λk hk e=>hk.2.2 b B hB (.inl e);have hwr:=hr.write (ob:=.arr i.size (rs++us)) (w':=w.setRow B.b (cs.toList.take (B.off+rs.length*i.size)++O++cs.toList.drop (B.off+rs.length*i.size+O.length)).toArray) hB rfl rfl rfl (by simp)
   (λk hk=>setRow_other w B.b k _ hk) ⟨hBz,by simpa using hroom,g1,_,E,setRow_heap w B.b cs _ E _ e1,by simp;omega,λk r hk j v hj=>by
    obtain⟨u,hu1,hu2⟩:=g2 k r hk j v hj;refine⟨u,by rw[<-hu1];simp only[CS];rw[List.take_add,Kh,Kh,Kc (by simp;omega)];congr 1;simp;omega,hu2.mono λk hk=>⟨⟨by simpa using hk.1,hk.2⟩,setRow_other w B.b k _ (hne k hk)⟩⟩⟩
  have hre:=hwr.reset b (.arr i.size (rs++us)) ⟨_,St.look_set_same _ _ _⟩ (.inl ⟨B,hB,hwr.block hB (St.look_set_same _ _ _)⟩);rw[St.set_kill]at hre;rw[hd];exact hre.put (XT hn) (.own b _ B hB hroom)
 
 have hoc:∀(j:Nat) v,((cs.toList.drop B.off).take (rs.length*i.size))[j]? = X v->w.cell? ((⟨B.b,B.off,n_⟩:Addr).add j)=X v:=by
  intro j v hj;rw[Kd]at hj;by_cases h:j<rs.length*i.size
  ·rw[if_pos h,UQ]at hj;simp[Addr.add_lit,World.cell?,e1];simpa using hj
  rw[if_neg h]at hj;simp at hj
 have hrun:=run_append_grow (P:=P) w T o.type e i zv hu hi hz' ⟨B.b,B.off,n_⟩ rs.length B.cap _ hol hoc p us.length c O hnews hcells (by omega) (by omega) (growslice_fits (by omega) hbytes);have hge:=grownCap_ge w (rs.length+us.length) B.cap e;refine⟨_,_,ext (BQ Z b) b ⟨w.heap.size,grownCap w (rs.length+us.length) B.cap e,i.size,[],0⟩,hexec _ _ _ _ _ h1 (by rw[hyv];exact hrun),?_⟩;obtain⟨g1,g2⟩:=Qa1 (I:=Xp C Z w) (w:=w) (n:=rs.length) (rs:=rs) (olds:=(cs.toList.drop B.off).take (rs.length*i.size))
  (rest:=(Builtin.zeroCells zv.cells (grownCap w (rs.length+us.length) B.cap e-(rs.length+us.length))).toList) rfl hol hok hokU hnews hold hrowU
 have hmv:=hr.moved (b:=b) (cap:=grownCap w (rs.length+us.length) B.cap e) (z:=i.size) (E:=e)
  (cells:=((cs.toList.drop B.off).take (rs.length*i.size)).toArray++O.toArray++Builtin.zeroCells zv.cells (grownCap w (rs.length+us.length) B.cap e-(rs.length+us.length))) (rs:=rs++us) hb2 _ rfl
  (YW.mk0 rfl rfl (by simpa using hge) g1 _ e (heap_alloc_new w.drew _) (by
   simp only[Array.size_append,Qbi,hol,hnews,size_zeroCells,hzs,<-Je];congr 1;omega) λk r hk j v hj=>by
   obtain⟨u,hu1,hu2⟩:=g2 k r hk j v hj;refine⟨u,?_,XG.mono (w:=w) (λk hk=>⟨hk,Below.heap_alloc w.drew _ _ hk.1⟩) hu2⟩;rw[<-hu1,<-QfC];simp[Kh])
 rw[hd];exact hmv.put (XT hn) (.own b _ ⟨w.heap.size,_,i.size,[],0⟩ (XQ _ _ _) hge)
def Qf.appendB {T U d e e' z z' by_ by' b n m:Nat}{x y:Operand}{rs us rs':L_ (L_ V)}{zs:L_ V}(ho:o.op=.call { callee:=.builtin .append,args:=#[x,y],argTypes:=#[T,U] })
  (hd:o.dst=X d) (hn:B_ d C) (hx:Y.opd x=X (.own b n)) (hb:look Y.hp b=X (.arr z rs)) (O:Nat.ble 621 b=f_) (hnl:rs.length=n)
  (hT:YD P T=X (e,z,by_)) (hU:YD P U=X (e',z',by')) (hz:XY P e=X zs) (hzl:zs.length=z) (hz0:z≠0) (hsm:n+us.length<=140737488355328) (h:(n+us.length)*by_<=140737488355328)
  (hy:∀Z a w,RR C Z Y a w->QiQ Z (Xp C Z w) w (a.eval y) z us) (he:rs++us=rs') (hm:n+us.length=m):Qf P C o Y (Y.app b z d m rs'):=
 Qf.val (QnH ho hd hn hx hb O hnl hT hU hz hzl hz0 hsm h hy he hm)
def Qf.append {T U d e e' z z' by_ by' b n m:Nat}{x y:Operand}{rs us rs':L_ (L_ V)}{zs:L_ V}(ho:o.op=.call { callee:=.builtin .append,args:=#[x,y],argTypes:=#[T,U] })
  (hd:o.dst=X d) (hn:B_ d C) (hx:Y.opd x=X (.own b n)) (hb:look Y.hp b=X (.arr z rs)) (O:Nat.ble 621 b=f_) (hnl:rs.length=n)
  (hT:YD P T=X (e,z,by_)) (hU:YD P U=X (e',z',by')) (hz:XY P e=X zs) (hzl:zs.length=z) (hz0:z≠0) (hby:by_<=32768) (h:n+us.length<=4294967296)
  (hy:∀Z a w,RR C Z Y a w->QiQ Z (Xp C Z w) w (a.eval y) z us) (he:rs++us=rs') (hm:n+us.length=m):Qf P C o Y (Y.app b z d m rs'):=
 Qf.val (QnH ho hd hn hx hb O hnl hT hU hz hzl hz0 (Yq h (by decide)) (Yq (Nat.mul_le_mul h hby) (by decide)) hy he hm)
end
structure Ins (S:Nat->Prop) (Z:Nat->Option Xh) (w:World) (vals:Array Value) (args:List V) (hs:List (Nat×Ob)):Prop where
 lt:∀k,S k->k<w.heap.size
 inj:∀o o' B B' k,Z o=X B->Z o'=X B'->B.has k->B'.has k->o=o'
 dom:∀o B,Z o=X B->619<=o/\(∀k,B.has k->k<w.heap.size/\¬S k)/\∃ob,look hs o=X ob
 size:vals.size=args.length
 args:∀(j:Nat) x v,vals[j]? = X x->args[j]? = X v->QW Z S w x v
 heap:∀o ob,look hs o=X ob->(∃B,Z o=X B/\KH Z S w B ob)\/(Z o=n_/\ob.Nil)
def Aft (S:Nat->Prop)(Z:Nat->O_ Xh)(w w':World)(k:Nat):Prop:=k<w'.heap.size/\(k<w.heap.size->S k)/\∀o B,Z o=X B->¬B.has k
structure Outs (S:Nat->Prop) (Z:Nat->Option Xh) (w:World) (φ':Nat->Option Xh) (w':World) (x:Value) (v:V) (hs:List (Nat×Ob)):Prop where
 os:w'.os=w.os
 tape:w'.tape=w.tape
 output:w'.output=w.output
 size:w.heap.size<=w'.heap.size
 kept:∀k,k<w.heap.size->(∀o B,Z o=X B->¬B.has k)->w'.heap[k]? = w.heap[k]?
 inj:∀o o' B B' k,φ' o=X B->φ' o'=X B'->B.has k->B'.has k->o=o'
 dom:∀o B,φ' o=X B->∃ob,look hs o=X ob
 lt:∀o B k,φ' o=X B->B.has k->k<w'.heap.size/\(k<w.heap.size->∃o' B',Z o'=X B'/\B'.has k)
 new:∀o B k,φ' o=X B->B.has k->o<619->w.heap.size<=k
 stay:QeE Z φ' hs
 rep:QW φ' (Aft S φ' w w') w' x v
 heap:∀o ob,look hs o=X ob->(∃B,φ' o=X B/\KH φ' (Aft S φ' w w') w' B ob)\/(φ' o=n_/\ob.Nil)
def QyC (P:Program):O_ Nat:=P.globalNamed "strings.asciiSpace"
def QbH (P:Program)(S:Nat->Prop)(w:World):Prop:=∀g,QyC P=X g->S g/\g<w.heap.size/\∀c:Nat,c<256->w.cell? ⟨g,c,n_⟩=X (.int .u8 (if Lib.isSp (UInt8.ofNat c)then 1 else 0))
def QbH.mono {P:Program}{S O:Nat->Prop}{w:World}(h:QbH P S w)(hs:∀k,S k->O k):QbH P O w:=λg hg=>let ⟨a,b⟩:=h g hg;⟨hs g a,b⟩
def XC.pg (C:XC)(P:Program):Prop:=QbH P C.S C.w0/\∀g,QyC P=X g->¬C.W g
structure Ki (P:Program) (C:XC) (n:Nat):Prop where
 n:C.n=n
 g:C.pg P
def QP {n m d:Nat}(h:m=n)(e:Nat.ble (d+1) n=t_):Nat.ble (d+1) m=t_:=h▸e
def RR.glob {P:Program}{C:XC}{Z:Nat->O_ Xh}{Y:St}{a:Act}{w:World}(O:RR C Z Y a w)(hg:C.pg P):QbH P (Xp C Z w) w:=λg h=>by
 obtain⟨s,l,c⟩:=hg.1 g h;have nW:=hg.2 g h;refine⟨⟨Ez l O.size,λ_=>s,λo B hB hb=>nW ((O.lt o B g hB hb).2 l)⟩,Ez l O.size,λi hi=>?_⟩;rw[World.cell?_of_block (O.kept g l nW)];exact c i hi
def QX (P:Program)(f:FuncId)(args:L_ V)(hs:H_)(post:V->H_->Prop):Prop:=
 ∀(S:Nat->Prop) (Z:Nat->O_ Xh) (w:World) (h:Array Value),Ins S Z w h args hs->QbH P S w->
  Calls P f h w λe w'=>∃x v O φ',e=.returned x/\post v O/\Outs S Z w φ' w' x v O
def KO (β:Nat)(P:Program)(f:FuncId)(args:L_ V)(hs:H_)(post:V->H_->Prop):Prop:=
 ∀(S:Nat->Prop) (Z:Nat->O_ Xh) (w:World) (h:Array Value),β<=w.heap.size->Ins S Z w h args hs->QbH P S w->
  Calls P f h w λe w'=>∃x v O φ',e=.returned x/\post v O/\Outs S Z w φ' w' x v O
def QX.b {P:Program}{f:FuncId}{args:L_ V}{hs:H_}{O:V->H_->Prop}{β:Nat}(h:QX P f args hs O):KO β P f args hs O:=λS Z w vals _=>h S Z w vals
def KO.a {P:Program}{f:FuncId}{args:L_ V}{hs:H_}{O:V->H_->Prop}(h:KO 0 P f args hs O):QX P f args hs O:=λS Z w vals=>h S Z w vals (Ii _)
def KO.mono {P:Program}{f:FuncId}{args:L_ V}{hs:H_}{post O:V->H_->Prop}{β:Nat}(h:KO β P f args hs post)(hp:∀v hs,post v hs->O v hs):KO β P f args hs O:=
 λS Z w vals hβ hi hG=>(h S Z w vals hβ hi hG).mono λ_ _ ⟨x,v,hs',φ',h1,h2,h3⟩=>⟨x,v,hs',φ',h1,hp v hs' h2,h3⟩
def QX.mono {P:Program}{f:FuncId}{args:L_ V}{hs:H_}{post O:V->H_->Prop}(h:QX P f args hs post)(hp:∀v hs,post v hs->O v hs):QX P f args hs O:=
 λS Z w vals hi hG=>(h S Z w vals hi hG).mono λ_ _ ⟨x,v,hs',φ',h1,h2,h3⟩=>⟨x,v,hs',φ',h1,hp v hs' h2,h3⟩
def Rv : Nat->L_ V->S_
 |_,[]=>[]|k,v::r=>(k,v)::Rv (k+1) r
def QqR : ∀(l:L_ V) (k t:Nat) (v:V),look (Rv k l) t=X v->k<=t/\l[t-k]? = X v:=by
 intro l
 induction l with
 |nil=>intro k t v h;cases h
 |cons u l ih=>
  intro k t v h;by_cases e:k=t
  ·subst e;rw[Rv,QD]at h;cases h;simp
  rw[Rv,QA _ _ e]at h;obtain⟨h1,O⟩:=ih (k+1) t v h;refine⟨by omega,?_⟩;rw[show t-k=(t-(k+1))+1 by omega];simpa using O
def Res (P:Program)(Y:St):L_ ResultVar->L_ V->Prop
 |[],[]=>True|.tmp t::r,v::vs=>look Y.fr t=X v/\Res P Y r vs|.cell p T::r,v::vs=>(∃b h,look Y.fr p=X (.loc b 0 0)/\look Y.hp b=X (.var h)/\((AW P T=X t_/\CV P T=X h.length/\v=.agg h)\/(AW P T=X f_/\h=[v])))/\Res P Y r vs|_,_=>False
def QiS : L_ V->V
 |[v]=>v|vs=>.tup vs
def QfF (P:Program)(O:L_ ResultVar)(h:V->H_->Prop):Exit->St->Prop
 |.normal,Y=>∃vs,Res P Y O vs/\h (QiS vs) Y.hp|.ret,Y=>∃vs,Res P Y O vs/\h (QiS vs) Y.hp|_,_=>False
def Td (tmps:Array Value):ResultVar->Sem Value
 |.tmp t=>pure (tmps.getD t undef)|.cell a t=>do loadVar t (<-asAddr (tmps.getD a undef))
section
variable {P:Program}{C:XC}{Z:Nat->O_ Xh}{Y:St}{a:Act}{w:World}
def RR.resList (hr:RR C Z Y a w):∀(rv:L_ ResultVar) (vs:L_ V),Res P Y rv vs->
  ∃xs:L_ Value,(rv.mapM (Td a.tmps)).run P w=.ok xs w/\xs.length=vs.length/\∀(j:Nat) x v,xs[j]? = X x->vs[j]? = X v->QW Z (Xp C Z w) w x v:=by
 intro rv
 induction rv with
 |nil=>
  intro vs h;cases vs with|nil=>exact⟨[],rfl,rfl,by simp⟩|cons=>cases h
 |cons r rv ih=>
  intro vs h;cases vs with
  |nil=>cases r<;>cases h
  |cons v vs=>
   have key:∃x,(Td a.tmps r).run P w=.ok x w/\QW Z (Xp C Z w) w x v/\Res P Y rv vs:=by
    cases r with
    |tmp t=>
     obtain⟨h1,h2⟩:=h;obtain⟨x,hx,hrep⟩:=hr.frame t v h1;exact⟨x,by simp[Td,QfA,hx],hrep,h2⟩
    |cell p T=>
     obtain⟨⟨b,cs,h1,h2,h3⟩,h4⟩:=h;obtain⟨x,hx,hrep⟩:=hr.frame p _ h1;obtain⟨B,hB,rfl⟩:=hrep.loc_inv;obtain⟨xs,E,e1,e2,e0,e3⟩:=hr.block hB h2;have O:∀y,(Instr.loadAt T (.pointer (X ⟨B.b,B.off+(0*B.z+0),n_⟩))).run P w=.ok y w->(Td a.tmps (.cell p T)).run P w=.ok y w:=by
      intro y hy;simp only[Td,QfA,hx,QcZ,asAddr,Xl,Xx,Xo];simpa only[Instr.loadAt,Instr.sureAddr,Xl,Xx,Xo] using hy
     rcases h3 with⟨g1,g2,rfl⟩|⟨g1,rfl⟩
     ·have hc:∀j,j<cs.length->w.cell? ((⟨B.b,B.off+(0*B.z+0),n_⟩:Addr).add j)=X (xs.getD j undef):=by
       intro j hj;have:j<xs.size:=by omega
       simp[Addr.add_lit,World.cell?,e1,Array.getD,this,e0]
      refine⟨_,O _ (QaZ _ g1 g2 hc),.agg _ _ (by simp) λj y u hy hu=>?_,h4⟩;simp only[CS,Yj,Yo,Xf,QeC,Qcs]at hy;obtain⟨_,⟨hj,rfl⟩,rfl⟩:=hy;have hlt:j<xs.size:=by omega
      exact e3 j _ u (by simp[Array.getD,hlt]) hu
     have hlt:0<xs.size:=by rw[e2];simp
     exact⟨xs[0],O _ (MY g1 (by simp[World.cell?,e1,hlt,e0])),e3 0 _ _ (AV hlt) rfl,h4⟩
   obtain⟨x,h1,h2,h3⟩:=key;obtain⟨xs,h4,h5,h6⟩:=ih vs h3;refine⟨x::xs,by rw[List.mapM_cons];simp only[Xl,h1,Xo,h4,Xx],by simp[h5],λj y u hy hu=>?_⟩;cases j with|zero=>simp at hy hu;subst hy;subst hu;exact h2|succ j=>exact h6 j y u hy hu
def RR.result (hr:RR C Z Y a w){fn:Func}{vs:L_ V}(h:Res P Y fn.results.toList vs):∃x,(results fn a.tmps).run P w=.ok x w/\QW Z (Xp C Z w) w x (QiS vs):=by
 obtain⟨xs,h1,h2,h3⟩:=hr.resList fn.results.toList vs h;have hm:(fn.results.mapM (Td a.tmps)).run P w=.ok xs.toArray w:=by
  rw[Array.mapM_eq_mapM_toList,Sem.run_map,h1];rfl
 have hres:(results fn a.tmps).run P w=.ok (if h:xs.toArray.size=1 then xs.toArray[0]else .tuple xs.toArray) w:=by
  have:results fn a.tmps=(do
    let vs <-fn.results.mapM (Td a.tmps)
    pure (if h:vs.size=1 then vs[0]else .tuple vs)):=by
   unfold results;congr 1
  rw[this];simp only[Xl,hm,Xo,Xx]
 refine⟨_,hres,?_⟩;by_cases O:xs.toArray.size=1
 ·rw[dif_pos O];have:∃v,vs=[v]:=List.length_eq_one_iff.1 (by rw[<-h2];simpa using O);obtain⟨v,rfl⟩:=this;have hl:0<xs.length:=by rw[h2];simp
  refine h3 0 _ v ?_ rfl;simp[Qv hl]
 rw[dif_neg O];have:QiS vs=.tup vs:=by
  cases vs with
  |nil=>rfl|cons v vs=>cases vs with|nil=>exact absurd (by simpa using h2) O|cons=>rfl
 rw[this];exact .tup _ _ (by simpa using h2) λj x v hx hv=>h3 j x v (by simpa using hx) hv
def RR.unmark {ts:Array Value}{Ds:L_ Nat}{D:Nat}(hn:(D::Ds).Nodup)(hm:∀D'∈D::Ds,C.w0.heap.size<=D'/\Xp C Z w D'/\w.heap[D']? = X (.deferred (X [])))
  {ds:L_ Deferred} (O:RR C Z Y ⟨ts,ds⟩ w):RR C Z Y ⟨ts,Ds.map (λD=>{ target:=.collected D,args:=#[] })⟩ (w.putObj D (.deferred n_)):=by
 obtain⟨hD0,hD1,hD2⟩:=hm D Yc;have ho:∀k,k≠D->(w.putObj D (.deferred n_)).heap[k]? = w.heap[k]? := λk hk=>World.putObj_heap_other hk;have hsz:(w.putObj D (.deferred n_)).heap.size=w.heap.size:=World.putObj_size;have hI:∀k,Xp C Z w k->Xp C Z (w.putObj D (.deferred n_)) k/\Kp w (w.putObj D (.deferred n_)) k:=λk hk=>by
  refine⟨⟨by rw[hsz];exact hk.1,hk.2⟩,?_⟩;by_cases e:k=D
  ·subst e;refine⟨λi=>?_,λcs E h=>?_⟩
   ·simp only[World.cell?,World.putObj_heap_same hD1.1,hD2]
   rw[hD2]at h;cases h
  exact Kp.of (ho k e)
 have hob:∀o B k,Z o=X B->B.has k->(w.putObj D (.deferred n_)).heap[k]? = w.heap[k]? := λo B k hB hk=>ho k λe=>hD1.2.2 o B hB (e▸hk);refine⟨O.os,O.tape,O.output,by rw[hsz];exact O.size,λk h1 h2=>(ho k (by omega)).trans (O.kept k h1 h2),O.inj,O.dom,λo B k hB hk=>by rw[hsz];exact O.lt o B k hB hk,O.new,O.stay,O.tmps,
  ⟨Ds,rfl,(NI.1 hn).2,λD' hD'=>?_⟩,λt v hv=>?_,λo ob hob'=>?_⟩
 ·obtain⟨a1,a2,a3⟩:=hm D' (Ys _ hD');exact⟨a1,⟨by rw[hsz];exact a2.1,a2.2⟩,(ho D' λe=>(NI.1 hn).1 (e▸hD')).trans a3⟩
 ·obtain⟨x,hx,hrep⟩:=O.frame t v hv;exact⟨x,hx,hrep.monoC (λ_ _ h=>h) hI⟩
 rcases O.heap o ob hob' with⟨B,hB,hrep⟩|hn
 ·exact .inl ⟨B,hB,hrep.monoC (λ_ _ h=>h) hI (λk hk=>hob o B k hB hk)⟩
 exact .inr hn
def KO.enter {β:Nat}{f:FuncId}{fn:Func}{c:Code}{n:Nat}{args:L_ V}{hs:H_}{post:V->H_->Prop}(hf:P.funcs[f]? = X fn)(hb:fn.body=X c)(hn:fn.ntmps=n)
  (hle:Nat.ble args.length n=t_) (hsm:Nat.ble n 621=t_) (h:∀C:XC,Ki P C n->C.rnd=n_->β<=C.w0.heap.size->YX P C c ⟨Rv 0 args,hs⟩ (QfF P fn.results.toList post)):KO β P f args hs post:=by
 intro S Z w vals hβ hi hG;have hle:=JC hle;refine(callsIn_wide (n:=0)).1 (callsIn_of_wp_marks hf hb trivial ?_);let C:XC:=⟨w,S,λk=>∃o B,Z o=X B/\B.has k,n,Z,JC hsm,n_⟩;have hI:∀k,S k->Xp C Z w k/\w.heap[k]? = w.heap[k]? := λk hk=>⟨⟨hi.lt k hk,λ_=>hk,λo B hB e=>((hi.dom o B hB).2.1 k e).2 hk⟩,rfl⟩;have hR:R C ⟨Rv 0 args,hs⟩ { tmps:=vals++Array.replicate (fn.ntmps-vals.size) undef,defers:=[] } w:=by
  refine⟨Z,rfl,rfl,rfl,Yk _,λ_ _ _=>rfl,hi.inj,λo B hB=>(hi.dom o B hB).2.2,λo B k hB hk=>⟨((hi.dom o B hB).2.1 k hk).1,λ_=>⟨o,B,hB,hk⟩⟩,λo B k hB hk hlt=>absurd (hi.dom o B hB).1 (by omega),⟨λ_ _ _ h=>h,λ_ _ _ _ _ h=>h⟩,
   by simp[hi.size,hn];show _=n;omega,⟨[],rfl,List.nodup_nil,λ_ h=>by cases h⟩,λt v hv=>?_,λo ob hob=>?_⟩
  ·obtain⟨_,h2⟩:=QqR args 0 t v hv;rw[Nat.sub_zero]at h2;have hlt:t<vals.size:=by rw[hi.size];exact(Xf.1 h2).1
   refine⟨vals[t],?_,(hi.args t _ v (AV hlt) h2).mono (λ_ _ h=>h) hI⟩;simp[Array.getElem?_append,hlt]
  rcases hi.heap o ob hob with⟨B,hB,O⟩|hn
  ·exact .inl ⟨B,hB,O.mono (λ_ _ h=>h) hI λ_ _=>rfl⟩
  exact .inr hn
 have hok:Ki P C n:=⟨rfl,hG,λg hg ⟨o,B,hB,hb⟩=>((hi.dom o B hB).2.1 g hb).2 (hG g hg).1⟩;refine wpIn_mono (h C hok rfl hβ _ _ hR) ?_;rintro e a' w' ⟨σ',hq,φ',O⟩;have done:(∃vs,Res P σ' fn.results.toList vs/\post (QiS vs) σ'.hp)->LeavesInM Fence.wide 0 P fn a'.tmps (λe w'=>∃x v hs' φ',e=.returned x/\post v hs'/\Outs S Z w φ' w' x v hs') a'.defers .returning w':=by
  rintro ⟨vs,h1,h2⟩;obtain⟨Ds,hds,hnd,hm⟩:=O.defers;obtain⟨ts,ds⟩:=a';simp only at hds;subst hds;simp only;revert w'
  induction Ds with
  |nil=>
   intro w' hm O;obtain⟨x,h3,h4⟩:=O.result (P:=P) h1;exact⟨x,h3,x,QiS vs,σ'.hp,φ',rfl,h2,O.os,O.tape,O.output,O.size,λk hk hne=>O.kept k hk (λ⟨o,B,hB,e⟩=>hne o B hB e),O.inj,O.dom,
    λo B k hB hk=>⟨(O.lt o B k hB hk).1,λhlt=>(O.lt o B k hB hk).2 hlt⟩,O.new,O.stay,h4,O.heap⟩
  |cons D Ds ih=>
   intro w' hm O;refine⟨by simp,.inl ⟨D,w'.putObj D (.deferred n_),rfl,run_takeDeferred (hm D Yc).2.2,?_⟩⟩;have hr':=O.unmark hnd hm;obtain⟨Ds',e1,e2,e3⟩:=hr'.defers;refine ih (NI.1 hnd).2 _ ?_ hr';have:Ds'=Ds:=by
    have inj:∀(l l':L_ Nat),l.map (λD=>({ target:=.collected D,args:=#[] }:Deferred))=l'.map (λD=>{ target:=.collected D,args:=#[] })->l=l':=by
     intro l
     induction l with
     |nil=>intro l' h;cases l' with|nil=>rfl|cons=>cases h
     |cons x l ih=>intro l' h;cases l' with
      |nil=>cases h
      |cons y l'=>simp only[GC,List.cons.injEq,Deferred.mk.injEq]at h;injection h.1.1 with h1;rw[h1,ih l' h.2]
    exact(inj _ _ e1).symm
   rw[<-this];exact e3
 cases e with|normal=>exact done hq|ret=>exact done hq|_=>exact hq.elim
def QX.enter {f:FuncId}{fn:Func}{c:Code}{n:Nat}{args:L_ V}{hs:H_}{O:V->H_->Prop}(hf:P.funcs[f]? = X fn)(hb:fn.body=X c)(hn:fn.ntmps=n)
  (hle:Nat.ble args.length n=t_) (hsm:Nat.ble n 621=t_) (h:∀C:XC,Ki P C n->C.rnd=n_->YX P C c ⟨Rv 0 args,hs⟩ (QfF P fn.results.toList O)):QX P f args hs O:=
 (KO.enter hf hb hn hle hsm λC h1 h2 _=>h C h1 h2).a
end
def V.datC : V->Bool
 |.agg h=>h.all V.dat|v=>v.dat
def V.datA : V->Bool
 |.tup h=>h.all V.datC|v=>v.datC
def V.sca : V->Bool
 |.b _=>t_|.i _ _=>t_|.s _=>t_|.J=>t_|.lit _=>t_|_=>f_
def V.scaC : V->Bool
 |.agg h=>h.all V.sca|v=>v.sca
def V.scaA : V->Bool
 |.tup h=>h.all V.scaC|v=>v.scaC
section
variable {Z φ':Nat->O_ Xh}{I I':Nat->Prop}{w w':World}{x:Value}{v:V}
def QW.datC (h:QW Z I w x v)(hv:v.datC=t_)(hI:∀k,I k->I' k/\w'.heap[k]? = w.heap[k]?):QW φ' I' w' x v:=by
 cases v with
 |agg cs=>
  obtain⟨xs,rfl,hs,hr⟩:=h.agg_inv;rw[V.datC,XS]at hv;exact .agg xs cs hs λj x v hx O=>.dat (((hr j x v hx O).toDat (hv v (XB O))).mono hI)
 |_=>exact .dat ((h.toDat hv).mono hI)
def QW.datA (h:QW Z I w x v)(hv:v.datA=t_)(hI:∀k,I k->I' k/\w'.heap[k]? = w.heap[k]?):QW φ' I' w' x v:=by
 cases v with
 |tup cs=>
  obtain⟨xs,rfl,hs,hr⟩:=h.tup_inv;rw[V.datA,XS]at hv;exact .tup xs cs hs λj x v hx O=>(hr j x v hx O).datC (hv v (XB O)) hI
 |_=>exact h.datC hv hI
def QW.sca (h:QW Z I w x v)(O:v.sca=t_):QW φ' I' w' x v:=by
 cases v with|b y=>rw[h.b_inv];exact .dat (.b _)|i k n=>rw[h.i_inv];exact .dat (.i _ _)|s y=>rw[h.s_inv];exact .dat (.s _)|lit y=>rw[h.lit_inv];exact .dat (.lit _)|J=>exact .dat (.J _)|_=>simp[V.sca]at O
def XG.sca (h:XG I w x v)(O:v.sca=t_):XG I' w' x v:=by
 cases v with
 |b y=>cases h;exact .b _
 |i k n=>cases h;exact .i _ _
 |s y=>cases h;exact .s _
 |lit y=>cases h;exact .lit _
 |J=>exact .J _|_=>simp[V.sca]at O
def QW.scaC (h:QW Z I w x v)(hv:v.scaC=t_):QW φ' I' w' x v:=by
 cases v with
 |agg cs=>
  obtain⟨xs,rfl,hs,hr⟩:=h.agg_inv;rw[V.scaC,XS]at hv;exact .agg xs cs hs λj x v hx O=>(hr j x v hx O).sca (hv v (XB O))
 |_=>exact h.sca hv
def QW.scaA (h:QW Z I w x v)(hv:v.scaA=t_):QW φ' I' w' x v:=by
 cases v with
 |tup cs=>
  obtain⟨xs,rfl,hs,hr⟩:=h.tup_inv;rw[V.scaA,XS]at hv;exact .tup xs cs hs λj x v hx O=>(hr j x v hx O).scaC (hv v (XB O))
 |_=>exact h.scaC hv
end
inductive ZZ (hp:List (Nat×Ob)) (g:Bool):V->V->Prop where
 |dat (v:V):v.datA=t_->ZZ hp g v v
 |nil (z:Nat):ZZ hp g (.lit (.slice n_ 0 0)) (.sl z [])
 |own (b n z:Nat) (rs us:List (List V)):g=t_->look hp b=X (.arr z rs)->n<=rs.length->rs.take n=us->ZZ hp g (.own b n) (.sl z us)
 |nst (b:Nat) (x:Value) (v:V):g=t_->look hp b=X (.nst x v)->ZZ hp g (.lit x) v
 |agg (cs us:List V):cs.length=us.length->(∀(j:Nat) c u,cs[j]? = X c->us[j]? = X u->ZZ hp g c u)->ZZ hp g (.agg cs) (.agg us)
 |clo (fn:Fn):ZZ hp g (.clo fn [] []) (.clo fn [] [])
def Qsl (C:XC)(Z:Nat->O_ Xh)(w:World)(g:Bool)(k:Nat):Prop:=Xp C Z w k\/(g=t_/\∃o B,Z o=X B/\B.has k)
section
variable {P:Program}{C:XC}{Z:Nat->O_ Xh}{Y:St}{a:Act}{w:World}{o:Oper}
def ZZ.sound {g:Bool}{v u:V}(hr:RR C Z Y a w)(h:ZZ Y.hp g v u):∀{x:Value},QW Z (Xp C Z w) w x v->QW (λ_=>n_) (Qsl C Z w g) w x u:=by
 induction h with
 |dat v hv=>exact λO=>O.datA hv λk hk=>⟨.inl hk,rfl⟩|nil z=>intro x O;rw[O.lit_inv];exact .dat (.sl0 _ _ _)|own b n z rs us hg hb hle hu=>
  intro x O;subst hu;rcases O.own_inv with⟨rfl,rfl⟩|⟨B,hB,hcap,rfl⟩
  ·simp only[List.take_zero];exact .dat (.sl0 _ _ _)
  obtain⟨rfl,hrl,hok,cs,E,h1,h2,h3⟩:=hr.block hB hb;refine .dat (.sl B.b B.off n B.cap B.z _ (λj=>cs.getD (B.off+j) undef) (.inr ⟨hg,b,B,hB,B.self⟩) (by simp;omega) hcap (λr hr'=>hok r (FQ hr')) (λj hj=>?_) (λi r hi j v hj=>?_))
  ·have hle2:n*B.z<=B.cap*B.z:=Jr _ hcap;have:B.off+j<cs.size:=by omega
   simp[World.cell?,h1,Array.getD,this]
  have hi':rs[i]? = X r:=by
   rw[Kd]at hi;by_cases hin:i<n
   ·rwa[if_pos hin]at hi
   rw[if_neg hin]at hi;simp at hi
  obtain⟨y,hy,hd⟩:=h3 i r hi' j v hj;have:cs.getD (B.off+(i*B.z+j)) undef=y:=by simp[QfA,hy]
  rw[this];exact hd.mono λk hk=>⟨.inl hk,rfl⟩
 |nst b x v hg hb=>
  intro y hy;rw[hy.lit_inv];rcases hr.heap b _ hb with⟨B,hB,hd⟩|⟨_,hn⟩
  ·exact .dat (XG.mono (λk hk=>⟨.inr ⟨hg,b,B,hB,hk⟩,rfl⟩) hd.1)
  exact .dat (XG.mono (λk hk=>hk.elim) (hn w))
 |agg cs us hl _ ih=>
  intro x O;obtain⟨xs,rfl,hs,hc⟩:=O.agg_inv;refine .agg xs us (by omega) λj y u hy hu=>?_;have hj:j<cs.length:=by rw[<-hs];exact(Cg.1 hy).1
  exact ih j cs[j] u (Qv hj) hu (hc j y _ hy (Qv hj))
 |clo fn=>
  intro x O;cases O with
  |dat d=>cases d
  |clo _ xs ys _ _ h1 h2 _ _=>exact .clo fn xs ys [] [] h1 h2 (λj y v _ h=>by simp at h) λj y v _ h=>by simp at h
def St.opsV (Y:St):L_ Operand->O_ (L_ V)
 |[]=>X []|x::r=>match Y.opd x,Y.opsV r with|some v,X vs=>X (v::vs)|_,_=>n_
def RR.opsV (hr:RR C Z Y a w):∀(xs:L_ Operand) (vs:L_ V),Y.opsV xs=X vs->xs.length=vs.length/\∀(j:Nat) x v,xs[j]? = X x->vs[j]? = X v->QW Z (Xp C Z w) w (a.eval x) v:=by
 intro xs
 induction xs with
 |nil=>intro vs h;simp only[St.opsV,Option.some.injEq]at h;subst h;simp|cons x xs ih=>
  intro vs h;simp only[St.opsV]at h;split at h
  ·rename_i v vs' hv hvs;cases h;obtain⟨h1,h2⟩:=ih vs' hvs;refine⟨by simp[h1],λj y u hy O=>?_⟩;cases j with|zero=>simp at hy O;subst hy;subst O;exact hr.opd hv|succ j=>exact h2 j y u hy O
  cases h
inductive SC (hp:List (Nat×Ob)) (g:Bool):List V->List V->Prop where
 |nil:SC hp g [] []
 |cons {v u:V} {vs us:List V}:ZZ hp g v u->SC hp g vs us->SC hp g (v::vs) (u::us)
def SC.get {hp:H_}{g:Bool}:∀{vs us:L_ V},SC hp g vs us->vs.length=us.length/\∀(j:Nat) v u,vs[j]? = X v->us[j]? = X u->ZZ hp g v u:=by
 intro vs us h
 induction h with
 |nil=>simp|cons h1 _ ih=>
  refine⟨by simp[ih.1],λj v u hv O=>?_⟩;cases j with|zero=>simp at hv O;subst hv;subst O;exact h1|succ j=>exact ih.2 j v u hv O
def QfG (P:Program)(f:FuncId):Bool:=match P.funcs[f]? with
 |some fn=>!(fn.name == "runtime.NumGoroutine")&&fn.body.isSome
 |none=>f_
def OE {f:FuncId}{args:Array Value}(h:QfG P f=t_):(callFunc f args).run P w=.ok (.enter f args) w:=by
 unfold QfG at h;split at h
 ·rename_i fn hf;rw[QN]at h;have h1:(fn.name == "runtime.NumGoroutine")=false:=by simpa using h.1
  have h2:fn.body.isNone=f_:=by
   cases hb:fn.body with|none=>rw[hb]at h;simp at h|some=>rfl
  simp only[callFunc,Xl,run_program,Xo,hf,h1,h2];rfl
 cases h
def RR.called {g:Bool}{φ':Nat->O_ Xh}{w':World}{x:Value}{v:V}{hs:H_}(hr:RR C Z Y a w)(O:Outs (Qsl C Z w g) (λ_=>n_) w φ' w' x v hs):RR C Z Y a w':=
 hr.step O.os O.tape O.output O.size λk hk=>O.kept k hk λ_ _ h=>by simp at h
def Aft.imm {φ':Nat->O_ Xh}{w':World}(hr:RR C Z Y a w){k:Nat}(hk:Aft (Qsl C Z w f_) φ' w w' k):Xp C Z w' k:=by
 obtain⟨O,h2,h3⟩:=hk;by_cases h:k<w.heap.size
 ·rcases h2 h with hI|⟨h,_⟩
  ·exact⟨O,hI.2.1,hI.2.2⟩
  cases h
 exact⟨O,λhlt=>absurd hr.size (by omega),λo B hB e=>by have:=(hr.lt o B k hB e).1;omega⟩
def JP (P:Program)(C:XC)(o:Oper)(Y:St)(f:FuncId)(vs:L_ V):Prop:=
 ∀Z a w,RR C Z Y a w->∃h:L_ Value,(execOp a.eval o).run P w=.ok (.enter f h.toArray) w/\h.length=vs.length/\
  ∀(j:Nat) x v,h[j]? = X x->vs[j]? = X v->QW Z (Xp C Z w) w x v
def Ins.of_viewsE {g:Bool}{vs us:L_ V}{O:L_ Value}(hr:RR C Z Y a w)(h1:O.length=vs.length)(h2:∀(j:Nat) x v,O[j]? = X x->vs[j]? = X v->QW Z (Xp C Z w) w x v)(hv:SC Y.hp g vs us):
  Ins (Qsl C Z w g) (λ_=>n_) w O.toArray us []:=by
 obtain⟨h3,h4⟩:=hv.get;refine⟨λk hk=>?_,λ_ _ _ _ _ h=>(by cases h),λ_ _ h=>(by cases h),by simp;omega,λj x u hx hu=>?_,λ_ _ h=>(by cases h)⟩
 ·rcases hk with hk|⟨_,o,B,hB,hk⟩
  ·exact hk.1
  exact(hr.lt o B k hB hk).1
 have hx:O[j]? = X x:=by simpa using hx
 have hlt:j<vs.length:=by rw[h3];exact(Xf.1 hu).1
 exact ZZ.sound hr (h4 j vs[j] u (Qv hlt) hu) (h2 j x _ hx (Qv hlt))
def Qf.callEB {β:Nat}(hβ:β<=C.w0.heap.size){f:FuncId}{d:Nat}{g:Bool}{vs us:L_ V}{r:V}(hE:JP P C o Y f vs)(hd:o.dst=X d)
  (hn:B_ d C) (hpg:C.pg P) (hv:SC Y.hp g vs us) (hc:KO β P f us [] λv _=>v=r) (hres:(g=f_/\r.datA=t_)\/r.scaA=t_):
  Qf P C o Y (Y.put d r):=by
 intro a w ⟨Z,hr⟩ next Q hnext;refine⟨λ_ _=>trivial,?_⟩;obtain⟨vals,hex,g1,g2⟩:=hE Z a w hr;rw[Qgi hex,Oper.uponIn_enter];refine⟨(λh=>by cases h),Qgj ((hc _ _ w _ (Yq hβ hr.size) (Ins.of_viewsE hr g1 g2 hv) ((hr.glob hpg).mono λ_ h=>.inl h)).mono ?_)⟩;rintro e w' ⟨x,v,hs',φ',rfl,rfl,O⟩;refine hnext _ _ ⟨Z,?_⟩;rw[hd];refine(hr.called O).put (XT hn) ?_;rcases hres with⟨rfl,hdat⟩|hsca
 ·exact O.rep.datA hdat λk hk=>⟨Aft.imm hr hk,rfl⟩
 exact O.rep.scaA hsca
def RR.born (hr:RR C Z Y a w){d:Nat}{B:Xh}{ob:Ob}{w':World}(hd:d<621)(hf:look Y.hp d=n_)(ho:w'.os=w.os)(ht:w'.tape=w.tape)(hu:w'.output=w.output)(hs:w.heap.size<=w'.heap.size)(hk:∀k,k<w.heap.size->w'.heap[k]? = w.heap[k]?)
  (hB:∀k,B.has k->w.heap.size<=k/\k<w'.heap.size) (hrep:KH (ext Z d B) (Xp C (ext Z d B) w') w' B ob):RR C (ext Z d B) (Y.set d ob) a w':=by
 have O:RR C Z Y a w':=hr.step ho ht hu hs hk;have hN:=hr.none_of_look hf;have hmono:=O.mono_ext B hN;have hI0:∀k,Xp C Z w k->Xp C (ext Z d B) w' k/\w'.heap[k]? = w.heap[k]? := λk hk'=>
  ⟨⟨Ez hk'.1 hs,hk'.2.1,λo' B' h hh=>by
   by_cases e:o'=d
   ·subst e;rw[XQ]at h;cases h;have:=hk'.1;have:=(hB k hh).1;omega
   rw[Xz _ e]at h;exact hk'.2.2 o' B' h hh⟩,hk k hk'.1⟩
 refine⟨O.os,O.tape,O.output,O.size,O.kept,?_,?_,?_,?_,⟨?_,λo' ob' B1 hge ho' hB1=>by rw[Xz _ (by omega)];exact O.stay.2 o' ob' B1 hge (by rwa[Y.look_set_other _ (by omega)]at ho') hB1⟩,O.tmps,hr.defers.mono hI0,?_,?_⟩
 ·intro o1 o2 B1 B2 k e1 e2 hb hb';by_cases g1:o1=d<;>by_cases g2:o2=d
  ·rw[g1,g2]
  ·subst g1;rw[XQ]at e1;cases e1;rw[Xz _ g2]at e2;have:=(hr.lt o2 B2 k e2 hb').1;have:=(hB k hb).1;omega
  ·subst g2;rw[XQ]at e2;cases e2;rw[Xz _ g1]at e1;have:=(hr.lt o1 B1 k e1 hb).1;have:=(hB k hb').1;omega
  rw[Xz _ g1]at e1;rw[Xz _ g2]at e2;exact hr.inj o1 o2 B1 B2 k e1 e2 hb hb'
 ·intro o' B' h;by_cases e:o'=d
  ·subst e;exact⟨_,Y.look_set_same _ _⟩
  rw[Xz _ e]at h;obtain⟨ob',h'⟩:=hr.dom o' B' h;exact⟨ob',by rw[Y.look_set_other _ (Ne.symm e)];exact h'⟩
 ·intro o' B' k h hk;by_cases e:o'=d
  ·subst e;rw[XQ]at h;cases h;exact⟨(hB k hk).2,λhlt=>absurd hr.size (by have:=(hB k hk).1;omega)⟩
  rw[Xz _ e]at h;exact O.lt o' B' k h hk
 ·intro o' B' k h hk hlt;by_cases e:o'=d
  ·subst e;rw[XQ]at h;cases h;exact Yq hr.size (hB k hk).1
  rw[Xz _ e]at h;exact O.new o' B' k h hk hlt
 ·intro o' B' hge h;rw[Xz _ (by omega)]at h;exact O.stay.1 o' B' hge h
 ·intro t u hu;obtain⟨y,hy,hrep⟩:=hr.frame t u hu;exact⟨y,hy,hrep.mono hmono hI0⟩
 intro o' ob' ho';by_cases e:o'=d
 ·subst e;rw[Y.look_set_same]at ho';cases ho';exact .inl ⟨B,XQ _ _ _,hrep⟩
 rw[Y.look_set_other _ (Ne.symm e)]at ho';rcases hr.heap o' ob' ho' with⟨B',h,hrep'⟩|⟨e1,e2⟩
 ·exact .inl ⟨B',by rw[Xz _ e];exact h,hrep'.mono hmono hI0 λk hk'=>hk _ (hr.lt o' B' k h hk').1⟩
 exact .inr ⟨by rw[Xz _ e];exact e1,e2⟩
def QnI (z:Nat)(rows:L_ (L_ V))(v:V)(h:H_):Prop:=∃o,v=.own o rows.length/\look h o=X (.arr z rows)
def Qf.callOEB {β:Nat}(hβ:β<=C.w0.heap.size){f:FuncId}{d m z:Nat}{g:Bool}{vs us:L_ V}{rows:L_ (L_ V)}(hE:JP P C o Y f vs)(hd:o.dst=X d)
  (hn:B_ d C) (hpg:C.pg P) (hv:SC Y.hp g vs us) (hc:KO β P f us [] (QnI z rows)) (hres:g=f_\/∀r∈rows,∀v∈r,v.sca=t_)
  (hf:look Y.hp d=n_) (hm:rows.length=m):Qf P C o Y ((Y.set d (.arr z rows)).put d (.own d m)):=by
 intro a w ⟨Z,hr⟩ next Q hnext;subst hm;refine⟨λ_ _=>trivial,?_⟩;obtain⟨vals,hex,g1,g2⟩:=hE Z a w hr;rw[Qgi hex,Oper.uponIn_enter];refine⟨(λh=>by cases h),Qgj ((hc _ _ w _ (Yq hβ hr.size) (Ins.of_viewsE hr g1 g2 hv) ((hr.glob hpg).mono λ_ h=>.inl h)).mono ?_)⟩;rintro e w' ⟨x,v,hs',φ',rfl,⟨oo,rfl,hlook⟩,O⟩;have hr':=hr.called O;have hN:=hr.none_of_look hf;rw[hd];rcases O.heap oo _ hlook with⟨B,hB,hrep⟩|⟨hnone,hz'⟩
 ·have hBn:∀k,B.has k->w.heap.size<=k:=λk hk=>by
   rcases DP k w.heap.size with h|h
   ·obtain⟨_,_,h2,_⟩:=(O.lt oo B k hB hk).2 h;simp at h2
   exact h
  have hBlt:∀k,B.has k->k<w'.heap.size:=λk hk=>(O.lt oo B k hB hk).1;have hI:∀k,Xp C Z w' k->¬B.has k->Xp C (ext Z d B) w' k/\w'.heap[k]? = w'.heap[k]? := λk hk hne=>⟨⟨hk.1,hk.2.1,λo' B' hB'=>by
   by_cases e:o'=d
   ·subst e;rw[XQ]at hB';cases hB';exact hne
   rw[Xz _ e]at hB';exact hk.2.2 o' B' hB'⟩,rfl⟩
  have hA:∀k,Aft (Qsl C Z w g) φ' w w' k->¬B.has k:=λk hk=>hk.2.2 oo B hB;obtain⟨hz,hrl,hok,cs,E,h1,h2,h3⟩:=hrep;have hset:RR C (ext Z d B) (Y.set d (.arr z rows)) a w':=by
   refine hr.born (C.slot hn) hf O.os O.tape O.output O.size (λk hk=>O.kept k hk λ_ _ h=>by simp at h) (λk hk=>⟨hBn k hk,hBlt k hk⟩) ⟨hz,hrl,hok,cs,E,h1,h2,λi r hi j v hj=>?_⟩;obtain⟨y,hy,hD⟩:=h3 i r hi j v hj;refine⟨y,hy,?_⟩;rcases hres with rfl|hsc
   ·exact hD.mono λk hk=>hI k (Aft.imm hr hk) (hA k hk)
   exact hD.sca (hsc r (XB hi) v (XB hj))
  refine hnext _ _ ⟨ext Z d B,hset.put (XT hn) ?_⟩;rcases O.rep.own_inv with⟨rfl,h0⟩|⟨B',hB',hcap,rfl⟩
  ·rw[h0];exact .own0 d
  rw[hB]at hB';cases hB';exact .own d _ B (XQ _ _ _) hcap
 replace hz':rows=[]:=hz';subst hz';refine hnext _ _ ⟨Z,(hr'.setNil (C.slot hn) hf).put (XT hn) ?_⟩;rcases O.rep.own_inv with⟨rfl,h0⟩|⟨B',hB',_,_⟩
 ·exact .own0 d
 rw[hnone]at hB';cases hB'
def Qf.callE {f:FuncId}{d:Nat}{g:Bool}{vs us:L_ V}{r:V}(hE:JP P C o Y f vs)(hd:o.dst=X d)
  (hn:B_ d C) (O:C.pg P) (hv:SC Y.hp g vs us) (hc:QX P f us [] λv _=>v=r) (h:(g=f_/\r.datA=t_)\/r.scaA=t_):
  Qf P C o Y (Y.put d r):=
 Qf.callEB (β:=0) (Ii _) hE hd hn O hv hc.b h
def Qf.callOE {f:FuncId}{d m z:Nat}{g:Bool}{vs us:L_ V}{rows:L_ (L_ V)}(hE:JP P C o Y f vs)(hd:o.dst=X d)
  (hn:B_ d C) (O:C.pg P) (hv:SC Y.hp g vs us) (hc:QX P f us [] (QnI z rows)) (h:g=f_\/∀r∈rows,∀v∈r,v.sca=t_)
  (hf:look Y.hp d=n_) (hm:rows.length=m):Qf P C o Y ((Y.set d (.arr z rows)).put d (.own d m)):=
 Qf.callOEB (β:=0) (Ii _) hE hd hn O hv hc.b h hf hm
end
def Qh (n:Int):Int:=IntKind.i64.wrap n
def idx {α:Type}(l:L_ α)(j:Int):O_ α:=if 0<=j then l[j.toNat]? else n_
def chk (c:Bool):O_ Unit:=bif c then X ()else n_
def Xy {α:Type}{c:Bool}{x y:O_ α}{r:α}(h:(bif c then x else y)=X r):(c=t_/\x=X r)\/(c=f_/\y=X r):=by
 cases c
 ·exact .inr ⟨rfl,h⟩
 exact .inl ⟨rfl,h⟩
def QI {α β:Type}{o:O_ α}{f:α->O_ β}{r:β}(h:o.bind f=X r):∃x,o=X x/\f x=X r:=Vq.1 h
def QlD {c:Bool}{u:Unit}(h:chk c=X u):c=t_:=by
 cases c
 ·cases h
 rfl
def Yz {α:Type}{l:L_ α}{j:Int}{x:α}(h:idx l j=X x):0<=j/\l[j.toNat]? = X x:=by
 unfold idx at h;split at h
 ·exact⟨by assumption,h⟩
 cases h
def QAK {α:Type}{l:L_ α}{j:Int}{x:α}(h:idx l j=X x):j<l.length:=by
 obtain⟨h0,O⟩:=Yz h;have:=(Xf.1 O).1;omega
def Xq {α β:Type}{l:L_ α}{f:α->β}{i:Nat}{x:α}(h:l[i]? = X x):(l.map f)[i]? = X (f x):=by rw[Yj,h];rfl
def EC {α β:Type}{l:L_ α}{f:α->β}{i:Nat}{x:α}{r:β}(h:r=f x):(l.map f).set i r=(l.set i x).map f:=by rw[h,List.map_set]
def WA {α β:Type}{l m:L_ α}{f:α->β}:l.map f++m.map f=(l++m).map f:=by simp
def Qsm {α β:Type}{f:α->β}{n:Nat}{x:α}{r:β}(h:r=f x):List.replicate n r=(List.replicate n x).map f:=by rw[h];simp
def Qx {α β:Type}{l:L_ α}{f:α->β}:(l.map f).length=l.length:=Dx f
def QvS (c:Bool):c=t_\/c=f_:=by cases c<;>simp
def Ye {c x y:Bool}(h:c=t_)(e:x=y):x=(c&&y):=by rw[h,e];rfl
def YH {c x y:Bool}(h:c=f_)(e:x=f_):x=(c&&y):=by rw[h,e];rfl
def Jf {c x y:Bool}(h:c=t_)(e:x=t_):x=(c||y):=by rw[h,e];rfl
def Xk {c x y:Bool}(h:c=f_)(e:x=y):x=(c||y):=by rw[h,e];rfl
def Te {c x y z:Bool}(h:c=t_)(e:x=y):x=(bif c then y else z):=by rw[h,e];rfl
def QfH {c x y z:Bool}(h:c=f_)(e:x=z):x=(bif c then y else z):=by rw[h,e];rfl
section
variable {P:Program}{C:XC}{ops:Array Oper}{Y:St}{Q:Exit->St->Prop}{c:Code}
end
section
variable {P:Program}{C:XC}{Y:St}{o:Oper}
def Qf.extract {d i:Nat}{x:Operand}{vs:L_ V}{v:V}(ho:o.op=.extract x i)(hd:o.dst=X d)(hn:B_ d C)(hx:Y.opd x=X (.tup vs))(O:vs[i]? = X v):Qf P C o Y (Y.put d v):=by
 refine Qf.same hd hn λZ a w hr=>?_;obtain⟨xs,he,hs,hc⟩:=(hr.opd hx).tup_inv;have h:i<xs.size:=by rw[hs];exact(Xf.1 O).1
 exact⟨xs[i],by simp[execOp,ho,he,Instr.extract,h],hc i _ v (AV h) O⟩
def Qf.appS {T U d e e' z z' by_ by' b n m:Nat}{x y:Operand}{rs us rs':L_ (L_ V)}{zs:L_ V}(ho:o.op=.call { callee:=.builtin .append,args:=#[x,y],argTypes:=#[T,U] })
  (hd:o.dst=X d) (hn:B_ d C) (hx:Y.opd x=X (.own b n)) (hb:look Y.hp b=X (.arr z rs)) (h:Nat.ble 621 b=f_) (hnl:rs.length=n)
  (hT:YD P T=X (e,z,by_)) (hU:YD P U=X (e',z',by')) (hz:XY P e=X zs) (hzl:zs.length=z) (hz0:z≠0) (O:Nat.ble by_ 32768=t_) (hsm:decide (n+us.length<=4294967296)=t_)
  (hy:Y.opd y=X (.sl z us)) (he:rs++us=rs') (hm:n+us.length=m):Qf P C o Y (Y.app b z d m rs'):=
 Qf.append ho hd hn hx hb h hnl hT hU hz hzl hz0 (JC O) (Xe hsm) (λZ a w hr=>(hr.opd hy).source_sl) he hm
def Qf.appO {T U d e e' z z' by_ by' b b' n h m:Nat}{x y:Operand}{rs us rs':L_ (L_ V)}{zs:L_ V}(ho:o.op=.call { callee:=.builtin .append,args:=#[x,y],argTypes:=#[T,U] })
  (hd:o.dst=X d) (hn:B_ d C) (hx:Y.opd x=X (.own b n)) (hb:look Y.hp b=X (.arr z rs)) (hb1:Nat.ble 621 b=f_) (hnl:rs.length=n)
  (hT:YD P T=X (e,z,by_)) (hU:YD P U=X (e',z',by')) (hz:XY P e=X zs) (hzl:zs.length=z) (hz0:z≠0) (hby:Nat.ble by_ 32768=t_) (hsm:decide (n+h<=4294967296)=t_)
  (hy:Y.opd y=X (.own b' h)) (O:look Y.hp b'=X (.arr z us)) (hle:us.length=h) (he:rs++us=rs') (hm:n+h=m):Qf P C o Y (Y.app b z d m rs'):=by
 subst hle;refine Qf.append ho hd hn hx hb hb1 hnl hT hU hz hzl hz0 (JC hby) (Xe hsm) (λZ a w hr=>?_) he hm;have:=(hr.opd hy).source_own hr O (Yk _);rwa[Uf]at this
def Qf.appN {T U d e e' z z' by_ by' b n:Nat}{x y:Operand}{rs:L_ (L_ V)}{zs:L_ V}(ho:o.op=.call { callee:=.builtin .append,args:=#[x,y],argTypes:=#[T,U] })
  (hd:o.dst=X d) (hn:B_ d C) (hx:Y.opd x=X (.own b n)) (hb:look Y.hp b=X (.arr z rs)) (h:Nat.ble 621 b=f_) (hnl:rs.length=n)
  (hT:YD P T=X (e,z,by_)) (hU:YD P U=X (e',z',by')) (hz:XY P e=X zs) (hzl:zs.length=z) (hz0:z≠0) (O:Nat.ble by_ 32768=t_) (hsm:decide (n<=4294967296)=t_)
  (hy:Y.opd y=X (.lit (.slice n_ 0 0))):Qf P C o Y (Y.app b z d n rs):=by
 refine Qf.append (us:=[]) ho hd hn hx hb h hnl hT hU hz hzl hz0 (JC O) (by simpa using Xe hsm) (λZ a w hr=>?_) (by simp) (by simp);exact .inl ⟨n_,0,(hr.opd hy).lit_inv,rfl⟩
end
def KT (a b:ByteArray):Bool:=a.toList==b.toList
def sidx (s:ByteArray)(j:Int):O_ Int:=if 0<=j then(s[j.toNat]?).map λc=>(c.toNat:Int)else n_
def max2 (x y:Int):Int:=if y > x then y else x
def min2 (x y:Int):Int:=if y<x then y else x
def neZ {n:Int}(h:(n != 0)=t_):n≠0:=by simpa using h
def QnJ (P:Program)(t:TypeId):Bool:=match P.underlying t with|some .bool=>true|_=>f_
def QvT {P:Program}{T:Nat}(h:QnJ P T=t_):P.underlying T=X .bool:=by
 unfold QnJ at h;split at h
 ·assumption
 cases h
def Quy {P:Program}{T:Nat}{m n:Bool}{w:World}(h:P.underlying T=X .bool):(Op.equal T (.bool m) (.bool n)).run P w=.ok (m==n) w:=by
 have e:Op.equal T (.bool m) (.bool n)=Op.equalIn (9999+1) T (.bool m) (.bool n):=rfl;rw[e,Op.equalIn];simp only[Xl,run_underlying h,Xo,Xx]
section
variable {P:Program}{C:XC}{Y:St}{o:Oper}
def Qf.eqB {op:BinOp}{x y:Operand}{T U d:Nat}{m n:Bool}{v:V}(ho:o.op=.binOp op T x y U)(hd:o.dst=X d)(hn:B_ d C)(hx:Y.opd x=X (.b m))(hy:Y.opd y=X (.b n))
  (hT:QnJ P T=t_) (hv:(op=.eql/\v=.b (m==n))\/(op=.neq/\v=.b (m != n))):Qf P C o Y (Y.put d v):=by
 refine Qf.same hd hn λZ a w h=>?_;have O:=(h.opd hx).b_inv;have h2:=(h.opd hy).b_inv;have hu:=QvT hT;rcases hv with⟨rfl,rfl⟩|⟨rfl,rfl⟩ <;>
  exact⟨.bool _,by simp only[execOp,ho,O,h2,Xl,eqGuard_at_bool,Xx,Xo,binOp,Quy hu];try rfl,.dat (.b _)⟩
def Qf.eqS {op:BinOp}{x y:Operand}{T U d:Nat}{m n:ByteArray}{v:V}(ho:o.op=.binOp op T x y U)(hd:o.dst=X d)(hn:B_ d C)(hx:Y.opd x=X (.s m))(hy:Y.opd y=X (.s n))
  (hv:(op=.eql/\v=.b (KT m n))\/(op=.neq/\v=.b (!KT m n))):Qf P C o Y (Y.put d v):=by
 refine Qf.same hd hn λZ a w hr=>?_;have h:=(hr.opd hx).s_inv;have O:=(hr.opd hy).s_inv;rcases hv with⟨rfl,rfl⟩|⟨rfl,rfl⟩
 ·exact⟨.bool (KT m n),by simp[execOp,ho,h,O,eqGuard,binOp,Op.stringOp,KT],.dat (.b _)⟩
 exact⟨.bool (!KT m n),by simp[execOp,ho,h,O,eqGuard,binOp,Op.stringOp,KT],.dat (.b _)⟩
def Qf.idxStr' {T d:Nat}{x y:Operand}{k:IntKind}{j r:Int}{s:ByteArray}(ho:o.op=.index T x y)(hd:o.dst=X d)(hn:B_ d C)
  (hx:Y.opd x=X (.s s)) (hy:Y.opd y=X (.i k j)) (O:Qg6 P T=t_) (h:sidx s j=X r):Qf P C o Y (Y.put d (.i .u8 r)):=by
 unfold sidx at h;split at h
 ·obtain⟨c,hc,rfl⟩:=Yo.1 h;exact Qf.idxStr ho hd hn hx hy O (by assumption) hc
 cases h
def Qf.lenS' {T d e z z' by_ n:Nat}{x:Operand}{rows:L_ (L_ V)}(ho:o.op=.call { callee:=.builtin .len,args:=#[x],argTypes:=#[T] })(O:o.dst=X d)(hn:B_ d C)
  (hx:Y.opd x=X (.sl z rows)) (h:YD P T=X (e,z',by_)) (hl:rows.length=n):Qf P C o Y (Y.put d (.i .i64 n)):=by
 subst hl;exact Qf.lenS ho O hn hx h
def Qf.make' {T d e z by_:Nat}{x y:Operand}{zs:L_ V}{rs:L_ (L_ V)}{k k':IntKind}{l c:Int}(ho:o.op=.makeSlice T x y)(hd:o.dst=X d)(hn:B_ d C)
  (hx:Y.opd x=X (.i k l)) (hy:Y.opd y=X (.i k' c)) (hT:YD P T=X (e,z,by_)) (hz:XY P e=X zs) (hzl:zs.length=z) (hz0:z≠0) (h:zs.all V.one=t_)
  (O:(decide (0<=l)&&decide (l<=c)&&decide (c<=4294967296))=t_) (hby:Nat.ble by_ 32768=t_) (hf:look Y.hp d=n_) (hrs:List.replicate l.toNat zs=rs):
  Qf P C o Y ((Y.set d (.arr z rs)).put d (.own d l.toNat)):=by
 subst hrs;simp only[QN,Qw]at O;exact Qf.make ho hd hn hx hy hT hz hzl hz0 h O.1.1 O.1.2 (JC hby) O.2 hf
def Qf.max2 {d:Nat}{x y:Operand}{k:IntKind}{m n:Int}{ts:Array TypeId}(ho:o.op=.call { callee:=.builtin .max,args:=#[x,y],argTypes:=ts })(O:o.dst=X d)(hn:B_ d C)
  (hx:Y.opd x=X (.i k m)) (hy:Y.opd y=X (.i k n)):Qf P C o Y (Y.put d (.i k (Vm.max2 m n))):=by
 refine Qf.same O hn λZ a w h=>⟨.int k (Vm.max2 m n),?_,.dat (.i _ _)⟩;simp[execOp,ho,(h.opd hx).i_inv,(h.opd hy).i_inv,resolve,invoke,builtin,Builtin.max_,Builtin.max2,Vm.max2]
def Qf.min2 {d:Nat}{x y:Operand}{k:IntKind}{m n:Int}{ts:Array TypeId}(ho:o.op=.call { callee:=.builtin .min,args:=#[x,y],argTypes:=ts })(O:o.dst=X d)(hn:B_ d C)
  (hx:Y.opd x=X (.i k m)) (hy:Y.opd y=X (.i k n)):Qf P C o Y (Y.put d (.i k (Vm.min2 m n))):=by
 refine Qf.same O hn λZ a w h=>⟨.int k (Vm.min2 m n),?_,.dat (.i _ _)⟩;simp[execOp,ho,(h.opd hx).i_inv,(h.opd hy).i_inv,resolve,invoke,builtin,Builtin.min_,Builtin.min2,Vm.min2]
end
def V.renC (o o':Nat):V->V
 |.own p n=>.own (bif Nat.beq p o then o' else p) n|.loc p k l=>.loc (bif Nat.beq p o then o' else p) k l|.map p=>.map (bif Nat.beq p o then o' else p)|.ifc t x=>.ifc t (x.renC o o')|.agg h=>bif h.all V.plain then .agg h else .J|.tup _=>.J|.clo _ _ _=>.J|v=>v
def V.ren (o o':Nat):V->V
 |.agg h=>.agg (h.map (V.renC o o'))|.clo fn fs h=>.clo fn (fs.map (V.renC o o')) (h.map (V.renC o o'))|v=>v.renC o o'
def Ob.ren (o o':Nat):Ob->Ob
 |.var h=>.var (h.map (V.ren o o'))|.lp l K h q=>.lp l K (h.map (V.ren o o')) q|ob=>ob
def Qkb (o o':Nat):S_->S_
 |[]=>[]|(t,v)::r=>(t,v.ren o o')::Qkb o o' r
def Qkc (o o':Nat):H_->H_
 |[]=>[]|(p,ob)::r=>(bif Nat.beq p o then o' else p,ob.ren o o')::Qkc o o' r
def St.ren (Y:St)(o o':Nat):St:=⟨Qkb o o' Y.fr,Qkc o o' Y.hp⟩
section
variable {Z φ':Nat->O_ Xh}{I:Nat->Prop}{w:World}{o o':Nat}
def UY (p o o':Nat):(p=o/\(bif Nat.beq p o then o' else p)=o')\/(p≠o/\(bif Nat.beq p o then o' else p)=p):=by
 cases h:Nat.beq p o with|true=>exact .inl ⟨Yp h,rfl⟩|false=>exact .inr ⟨λe=>by subst e;simp at h,rfl⟩
def QW.renC (h1:∀B,Z o=X B->φ' o'=X B)(h2:∀p B,p≠o->Z p=X B->φ' p=X B){x:Value}{v:V}(h:QW Z I w x v):QW φ' I w x (v.renC o o'):=by
 have key:∀p B,Z p=X B->φ' (bif Nat.beq p o then o' else p)=X B:=by
  intro p B O;rcases UY p o o' with⟨e,e2⟩|⟨e,e2⟩
  ·rw[e2];exact h1 B (e▸O)
  rw[e2];exact h2 p B e O
 induction h with
 |dat h=>
  have:∀{x:Value} {v:V},XG I w x v->QW φ' I w x (v.renC o o'):=by
   intro x v h
   induction h with
   |ifc t x v _ ih=>exact .ifc t x _ ih|agg xs cs hs hr=>
    unfold V.renC;cases h:cs.all V.plain with|true=>exact .dat (.agg xs cs hs hr)|false=>exact .dat (.J _)
   |tup=>exact .dat (.J _)|b=>exact .dat (.b _)|i=>exact .dat (.i _ _)|s=>exact .dat (.s _)|lit=>exact .dat (.lit _)|J=>exact .dat (.J _)|sl0=>exact .dat (.sl0 _ _ _)|sl b off len cap z rows c a1 a2 a3 a4 a5 a6 _=>exact .dat (.sl b off len cap z rows c a1 a2 a3 a4 a5 a6)|e0=>exact .dat (.e0 _)|sln0=>exact .dat (.sln0 _ _ _ _)|sln β b off len cap z rows c E a0 a1 a2 a3 a4 a5 a6 a7 _=>exact .dat (.sln β b off len cap z rows c E a0 a1 a2 a3 a4 a5 a6 a7)|ro b off cs c a1 a2 a3 a4 _=>exact .dat (.ro b off cs c a1 a2 a3 a4)
  exact this h
 |own0 p=>exact .own0 _|own p n B O hn=>exact .own _ n B (key p B O) hn|loc p i d B O=>exact .loc _ i d B (key p B O)|map p B O=>exact .map _ B (key p B O)|ifc t x v _ ih=>exact .ifc t x _ ih|agg xs cs hs hr _=>
  unfold V.renC;cases h:cs.all V.plain with|true=>exact .dat (QW.aggPlain hs hr h)|false=>exact .dat (.J _)
 |tup=>exact .dat (.J _)|clo=>exact .dat (.J _)
def QW.ren (h1:∀B,Z o=X B->φ' o'=X B)(h2:∀p B,p≠o->Z p=X B->φ' p=X B){x:Value}{v:V}(h:QW Z I w x v):QW φ' I w x (v.ren o o'):=by
 cases v with
 |agg cs=>
  obtain⟨xs,rfl,hs,hr⟩:=h.agg_inv;refine .agg xs _ (by simpa using hs) λj x v hx O=>?_;rw[Yj]at O;obtain⟨u,hu,rfl⟩:=Yo.1 O;exact(hr j x u hx hu).renC h1 h2
 |clo fn vs us=>
  obtain⟨xs,ys,rfl,e1,e2,e3,e4⟩:=h.clo_inv;refine .clo fn xs ys _ _ (by simpa using e1) (by simpa using e2) (λj x v hx O=>?_) (λj x v hx O=>?_)
  ·rw[Yj]at O;obtain⟨u,hu,rfl⟩:=Yo.1 O;exact(e3 j x u hx hu).renC h1 h2
  rw[Yj]at O;obtain⟨u,hu,rfl⟩:=Yo.1 O;exact(e4 j x u hx hu).renC h1 h2
 |_=>exact h.renC h1 h2
def KH.ren (h1:∀B,Z o=X B->φ' o'=X B)(h2:∀p B,p≠o->Z p=X B->φ' p=X B){B:Xh}{ob:Ob}(h:KH Z I w B ob):KH φ' I w B (ob.ren o o'):=by
 cases ob with
 |var vs=>
  obtain⟨cs,E,e1,e2,e0,e3⟩:=h;refine⟨cs,E,e1,by simpa using e2,e0,λj x v hx O=>?_⟩;rw[Yj]at O;obtain⟨u,hu,rfl⟩:=Yo.1 O;exact(e3 j x u hx hu).ren h1 h2
 |lp l K vs q=>
  obtain⟨tmps,D,e0,e1,e2,e3,e4⟩:=h;refine⟨tmps,D,e0,e1,e2,by simpa using e3,λj x v hx O=>?_⟩;rw[Yj]at O;obtain⟨u,hu,rfl⟩:=Yo.1 O;exact(e4 j x u hx hu).ren h1 h2
 |arr z rs=>exact h|map l=>exact h|grp z l lk=>exact h|mapX bm clock L l=>exact h|itr bm since seen cur=>exact h|itr0=>exact h|tbl A z rs=>exact h|nst x v=>exact h|scr D H=>exact h
def Ob.Nil.ren {ob:Ob}(h:ob.Nil):(ob.ren o o').Nil:=by cases ob<;>first|exact h|exact h.elim
end
def QnK {o o':Nat}:∀(l:S_) (t:Nat) (v:V),look (Qkb o o' l) t=X v->∃O,look l t=X O/\v=O.ren o o':=by
 intro l
 induction l with
 |nil=>intro t v h;cases h
 |cons p l ih=>
  intro t v h;obtain⟨k,u⟩:=p;by_cases e:k=t
  ·subst e;rw[Qkb,QD]at h;cases h;exact⟨u,QD _ _ _,rfl⟩
  rw[Qkb,QA _ _ e]at h;rw[QA _ _ e];exact ih t v h
def QbI {o o':Nat}:∀(l:H_) (p:Nat) (ob:Ob),look l o'=n_->look l p=X ob->look (Qkc o o' l) (bif Nat.beq p o then o' else p)=X (ob.ren o o'):=by
 intro l
 induction l with
 |nil=>intro p ob _ h;cases h
 |cons q l ih=>
  intro p ob O h;obtain⟨k,u⟩:=q;have hk:k≠o':=λe=>by subst e;rw[QD]at O;cases O
  rw[QA _ _ hk]at O;rw[Qkc];by_cases e:k=p
  ·subst e;rw[QD]at h;cases h;exact QD _ _ _
  rw[QA _ _ e]at h;have ne:(bif Nat.beq k o then o' else k)≠(bif Nat.beq p o then o' else p):=by
   have hp:p≠o':=λe'=>by rw[e',O]at h;cases h
   rcases UY k o o' with⟨a1,a2⟩|⟨a1,a2⟩<;>rcases UY p o o' with⟨b1,b2⟩|⟨b1,b2⟩<;>rw[a2,b2]<;>omega
  rw[QA _ _ ne];exact ih p ob O h
def Qcw {o o':Nat}:∀(l:H_) (q:Nat) (ob:Ob),look l o'=n_->look (Qkc o o' l) q=X ob->∃p ob',q=(bif Nat.beq p o then o' else p)/\look l p=X ob'/\ob=ob'.ren o o':=by
 intro l
 induction l with
 |nil=>intro p ob _ h;cases h
 |cons x l ih=>
  intro q ob O h;obtain⟨k,u⟩:=x;have hk:k≠o':=λe=>by subst e;rw[QD]at O;cases O
  rw[QA _ _ hk]at O;rw[Qkc]at h;by_cases e:(bif Nat.beq k o then o' else k)=q
  ·subst e;rw[QD]at h;cases h;exact⟨k,u,rfl,QD _ _ _,rfl⟩
  rw[QA _ _ e]at h;obtain⟨p,ob',h1,h2,h3⟩:=ih q ob O h;refine⟨p,ob',h1,?_,h3⟩;rw[QA _ _ (λe2=>e (by rw[e2,h1]))];exact h2
section
variable {C:XC}{Y:St}{a:Act}{w:World}
def R.ren (h:R C Y a w)(o o':Nat)(ho:Nat.ble 619 o=f_)(ho':Nat.ble 619 o'=f_)(hn:look Y.hp o'=n_):R C (Y.ren o o') a w:=by
 obtain⟨Z,O⟩:=h;have hφn:=O.none_of_look hn;by_cases eo:o=o'
 ·
  subst eo;have hfr:∀t v,look (Qkb o o Y.fr) t=X v->∃v',look Y.fr t=X v'/\v=v'.ren o o:=QnK Y.fr;refine⟨Z,O.os,O.tape,O.output,O.size,O.kept,O.inj,λp B hB=>?_,O.lt,O.new,O.stay.sub (λq ob hq=>let ⟨p,ob',e1,e2,_⟩:=Qcw Y.hp q ob hn hq;⟨ob',by rcases UY p o o with⟨a1,a2⟩|⟨a1,a2⟩<;>rw[e1,a2];exact a1▸e2;exact e2⟩),O.tmps,O.defers,λt v hv=>?_,λq ob hq=>?_⟩
  ·obtain⟨ob,hob⟩:=O.dom p B hB;have:=QbI (o:=o) (o':=o) Y.hp p ob hn hob;rcases UY p o o with⟨e1,e2⟩|⟨e1,e2⟩
   ·rw[e1,hφn]at hB;cases hB
   rw[e2]at this;exact⟨_,this⟩
  ·obtain⟨v',hv',rfl⟩:=hfr t v hv;obtain⟨x,hx,hrep⟩:=O.frame t v' hv';exact⟨x,hx,hrep.ren (λB h=>h) (λp B _ h=>h)⟩
  obtain⟨p,ob',e1,e2,rfl⟩:=Qcw Y.hp q ob hn hq;have:q=p:=by rcases UY p o o with⟨a1,a2⟩|⟨a1,a2⟩<;>rw[e1,a2];exact a1.symm
  subst this;rcases O.heap q ob' e2 with⟨B,hB,hrep⟩|⟨h1,hz⟩
  ·exact .inl ⟨B,hB,hrep.ren (λB h=>h) (λp B _ h=>h)⟩
  exact .inr ⟨h1,hz.ren⟩
 let φ':Nat->O_ Xh:=λk=>if k=o' then Z o else if k=o then n_ else Z k;have h1:∀B,Z o=X B->φ' o'=X B:=λB hB=>by simp only[φ',if_true];exact hB
 have h2:∀p B,p≠o->Z p=X B->φ' p=X B:=λp B hp hB=>by
  have:p≠o':=λe=>by rw[e,hφn]at hB;cases hB
  simp only[φ',if_neg this,if_neg hp];exact hB
 have inv:∀q B,φ' q=X B->(q=o'/\Z o=X B)\/(q≠o'/\q≠o/\Z q=X B):=by
  intro q B hB;simp only[φ']at hB;split at hB
  ·exact .inl ⟨by assumption,hB⟩
  split at hB
  ·cases hB
  exact .inr ⟨by assumption,by assumption,hB⟩
 have hI:∀k,Xp C Z w k->Xp C φ' w k:=λk hk=>⟨hk.1,hk.2.1,λq B hB=>by
  rcases inv q B hB with⟨_,h⟩|⟨_,_,h⟩
  ·exact hk.2.2 o B h
  exact hk.2.2 q B h⟩
 have hlt:o<619:=by
  rcases DP o 619 with h|h
  ·exact h
  rw[Vp h]at ho;cases ho
 have up:∀{x:Value} {v:V},QW Z (Xp C Z w) w x v->QW Z (Xp C φ' w) w x v:=λh=>h.mono (λ_ _ h=>h) (λk hk=>⟨hI k hk,rfl⟩);refine⟨φ',O.os,O.tape,O.output,O.size,O.kept,λp q B B' k e1 e2 hb hb'=>?_,λq B hB=>?_,λq B k hB hk=>?_,λq B k hB hk hq=>?_,⟨λq B hq hB=>?_,λq ob B hge hq hB=>by
  obtain⟨p,ob',e1,e2,_⟩:=Qcw Y.hp q ob hn hq;have hlt':o'<619:=by
   rcases DP o' 619 with h|h
   ·exact h
   rw[Vp h]at ho';cases ho'
  have:q=p:=by
   rcases UY p o o' with⟨a1,a2⟩|⟨a1,a2⟩
   ·rw[a2]at e1;omega
   rw[a2]at e1;exact e1
  subst this;have h1:=O.stay.2 q ob' B hge e2 hB;show φ' q=X B;simp only[φ'];rw[if_neg (by omega),if_neg (by omega)];exact h1⟩,O.tmps,O.defers.mono λk hk=>⟨hI k hk,rfl⟩,λt v hv=>?_,λq ob hq=>?_⟩
 ·rcases inv p B e1 with⟨a1,a2⟩|⟨a1,a2,a3⟩<;>rcases inv q B' e2 with⟨b1,b2⟩|⟨b1,b2,b3⟩
  ·rw[a1,b1]
  ·exact absurd (O.inj o q B B' k a2 b3 hb hb').symm b2
  ·exact absurd (O.inj p o B B' k a3 b2 hb hb') a2
  exact O.inj p q B B' k a3 b3 hb hb'
 ·rcases inv q B hB with⟨a1,a2⟩|⟨a1,a2,a3⟩
  ·obtain⟨ob,hob⟩:=O.dom o B a2;have:=QbI (o:=o) (o':=o') Y.hp o ob hn hob;rcases UY o o o' with⟨_,e⟩|⟨e,_⟩
   ·rw[e]at this;rw[a1];exact⟨_,this⟩
   exact absurd rfl e
  obtain⟨ob,hob⟩:=O.dom q B a3;have:=QbI (o:=o) (o':=o') Y.hp q ob hn hob;rcases UY q o o' with⟨e,_⟩|⟨_,e⟩
  ·exact absurd e a2
  rw[e]at this;exact⟨_,this⟩
 ·rcases inv q B hB with⟨a1,a2⟩|⟨a1,a2,a3⟩
  ·exact O.lt o B k a2 hk
  exact O.lt q B k a3 hk
 ·rcases inv q B hB with⟨a1,a2⟩|⟨a1,a2,a3⟩
  ·exact O.new o B k a2 hk hlt
  exact O.new q B k a3 hk hq
 ·rcases inv q B hB with⟨a1,a2⟩|⟨a1,a2,a3⟩
  ·have:o'<619:=by
    rcases DP o' 619 with h|h
    ·exact h
    rw[Vp h]at ho';cases ho'
   omega
  exact O.stay.1 q B hq a3
 ·obtain⟨v',hv',rfl⟩:=QnK _ _ _ hv;obtain⟨x,hx,hrep⟩:=O.frame t v' hv';exact⟨x,hx,(up hrep).ren h1 h2⟩
 obtain⟨p,ob',e1,e2,rfl⟩:=Qcw Y.hp q ob hn hq;rcases O.heap p ob' e2 with⟨B,hB,hrep⟩|⟨hnn,hz⟩
 ·have hrep':KH Z (Xp C φ' w) w B ob':=hrep.mono (λ_ _ h=>h) (λk hk=>⟨hI k hk,rfl⟩) λ_ _=>rfl;refine .inl ⟨B,?_,hrep'.ren h1 h2⟩;rcases UY p o o' with⟨a1,a2⟩|⟨a1,a2⟩
  ·rw[e1,a2];exact h1 B (a1▸hB)
  rw[e1,a2];exact h2 p B a1 hB
 refine .inr ⟨?_,hz.ren⟩;rcases UY p o o' with⟨a1,a2⟩|⟨a1,a2⟩
 ·rw[e1,a2];simp only[φ',if_true];rw[<-a1];exact hnn
 have:p≠o':=λe=>by rw[e,hn]at e2;cases e2
 rw[e1,a2];simp only[φ',if_neg this,if_neg a1];exact hnn
end
section
variable {P:Program}{C:XC}{ops:Array Oper}{Y:St}{Q:Exit->St->Prop}{c:Code}
end
def QyR {α:Type}{f:α->L_ V}(h:∀x,(f x).all V.sca=t_)(l:L_ α):∀r∈l.map f,∀v∈r,v.sca=t_:=by
 intro r O v hv;obtain⟨x,_,rfl⟩:=Yt.1 O;have:=h x;rw[XS]at this;exact this v hv
structure DF where
 d:Nat
 v:V
 ob:Option Ob
def St.addF (Y:St)(x:DF):St:=match x.ob with|none=>Y.put x.d x.v|some ob=>(Y.set x.d ob).put x.d x.v
def Qhb (Y:St)(x:DF):Prop:=look Y.fr x.d=X x.v/\∀ob,x.ob=X ob->look Y.hp x.d=X ob
def KJ (P:Program)(C:XC)(ops:Array Oper)(o:Oper)(Y σ':St):Prop:=
 ∀a w,R C Y a w->∀(K:Act->World->Prop) (Q:Exit->Act->World->Prop),(∀h w',R C σ' h w'->K h w')->
  if Region.wanted o (yielded ops a.tmps)then o.wpIn C.F 0 P a w K Q else K (a.put o.dst undef) w
section
variable {P:Program}{C:XC}{ops:Array Oper}{Y σ':St}{Q:Exit->St->Prop}{o:Oper}
def KJ.run (hg:o.guard=n_)(h:Qf P C o Y σ'):KJ P C ops o Y σ':=by
 intro a w hR K Q O;simp only[Region.wanted,hg,if_true];exact h a w hR K Q O
def KJ.runG {j d:Nat}{c t:Bool}(hg:o.guard=X (j,t))(hj:((ops[j]?).bind (·.dst))=X d)(hv:look Y.fr d=X (.b c))(hc:c=t)(h:Qf P C o Y σ'):KJ P C ops o Y σ':=by
 intro a w O K Q hK;subst hc;simp only[Region.wanted,hg,O.yielded hj hv,beq_self_eq_true,if_true];exact h a w O K Q hK
def KJ.pass {j d t:Nat}{c u:Bool}(hg:o.guard=X (j,u))(hj:((ops[j]?).bind (·.dst))=X d)(hv:look Y.fr d=X (.b c))(hc:c=!u)(ho:o.dst=X t)(ht:B_ t C):
  KJ P C ops o Y (Y.put t (.lit undef)):=by
 intro a w h K Q O;simp only[Region.wanted,hg,h.yielded hj hv];rw[if_neg (by subst hc;cases u<;>decide)];obtain⟨Z,hr⟩:=h;rw[ho];exact O _ _ ⟨Z,hr.put (JC ht) (.dat (.lit _))⟩
def KJ.passU {j d t:Nat}{u:Bool}(hg:o.guard=X (j,u))(hj:((ops[j]?).bind (·.dst))=X d)(hv:look Y.fr d=X (.lit undef))(ho:o.dst=X t)(ht:B_ t C):
  KJ P C ops o Y (Y.put t (.lit undef)):=by
 intro a w h K Q O;simp only[Region.wanted,hg,h.unyielded hj hv];rw[if_neg (by simp)];obtain⟨Z,hr⟩:=h;rw[ho];exact O _ _ ⟨Z,hr.put (JC ht) (.dat (.lit _))⟩
def Rw (o:Oper)(j:Nat):Bool:=o.after.toList.any λe=>Region.binds .any e&&Nat.beq e.on j
def QpJ (ops:Array Oper):Bool:=(List.range ops.size).all λi=>((ops[i]?).map λo=>o.after.toList.all λe=>!Region.binds .any e||Nat.ble (e.on+1) i).getD t_
def Ik : L_ Nat->Bool
 |[]=>t_|k::r=>!XX r k&&Ik r
def TV {O:Array Bool}{i:Nat}(hs:O.size=ops.size):i∈Region.ready .any ops O↔∃o,ops[i]? = X o/\O[i]? = X f_/\∀e∈o.after,Region.binds .any e=t_->O[e.on]? = X t_:=by
 unfold Region.ready;rw[FP,CU];constructor
 ·rintro ⟨hi,h⟩;rw[QN]at h;obtain⟨h1,h2⟩:=h;have hi':i<O.size:=by omega
  refine⟨ops[i],AV hi,?_,?_⟩
  ·rw[AV hi'];simp[Array.getD,hi']at h1;rw[h1]
  intro e he hb;simp only[AV hi,Gq,QcZ,Array.all_eq_true_iff_forall_mem]at h2;have:=h2 e he;simp only[hb,Jq,Qco]at this;by_cases hlt:e.on<O.size
  ·rw[AV hlt];simp[Array.getD,hlt]at this;rw[this]
  simp[Array.getD,hlt]at this
 rintro ⟨o,ho,hl,hd⟩;have hi:i<ops.size:=(Cg.1 ho).1;refine⟨hi,?_⟩;rw[QN];have hi':i<O.size:=by omega
 rw[AV hi']at hl;refine⟨by simp[Array.getD,hi',Option.some.inj hl],?_⟩;simp only[ho,Gq,QcZ,Array.all_eq_true_iff_forall_mem];intro e he;cases hb:Region.binds .any e with
 |false=>rfl|true=>
  have:=hd e he hb;obtain⟨hlt,hv⟩:=Cg.1 this;simp[Array.getD,hlt,hv]
def QiT (ops:Array Oper)(h:Array Bool):Prop:=∀(i:Nat) o,ops[i]? = X o->h[i]? = X t_->∀e∈o.after,Region.binds .any e=t_->h[e.on]? = X t_
def QiT.set {O:Array Bool}(hs:O.size=ops.size)(h:QiT ops O){i:Nat}(hi:i∈Region.ready .any ops O):QiT ops (O.setIfInBounds i t_):=by
 obtain⟨o,ho,hl,hd⟩:=(TV hs).1 hi;have keep:∀(k:Nat),O[k]? = X t_->(O.setIfInBounds i t_)[k]? = X t_:=by
  intro k hk;rw[QfB];split
  ·rename_i e;subst e;rw[if_pos (Cg.1 hk).1]
  exact hk
 intro k o' ho' hk e he hb;by_cases e1:i=k
 ·subst e1;rw[ho]at ho';cases ho';exact keep _ (hd e he hb)
 rw[Qsk e1]at hk;exact keep _ (h k o' ho' hk e he hb)
def QtF (hord:QpJ ops=t_){O:Array Bool}(hs:O.size=ops.size){k:Nat}(hk:k<ops.size)(hl:O[k]? ≠ X t_)(hall:∀i,i<k->O[i]? = X t_):k∈Region.ready .any ops O:=by
 rw[TV hs];have hk':k<O.size:=by omega
 refine⟨ops[k],AV hk,?_,λe he hb=>?_⟩
 ·rw[AV hk']at hl ⊢;cases h:O[k]with|true=>rw[h]at hl;exact absurd rfl hl|false=>rfl
 rw[QpJ,XS]at hord;have:=hord k (CU.2 hk);simp only[AV hk,Gq,QcZ,XS]at this;have:=this e (QgW.2 he);simp only[hb,Jq,Qco]at this;exact hall _ (JC this)
def Qsn {O:Array Bool}(n:Nat)(h:∃i,i<n/\O[i]? ≠ X t_):∃k,k<n/\O[k]? ≠ X t_/\∀i,i<k->O[i]? = X t_:=by
 induction n with
 |zero=>obtain⟨i,hi,_⟩:=h;omega
 |succ n ih=>
  by_cases h':∃i,i<n/\O[i]? ≠ X t_
  ·obtain⟨k,h1,h2,h3⟩:=ih h';exact⟨k,by omega,h2,h3⟩
  obtain⟨i,hi,hn⟩:=h;have:i=n:=by
   rcases DP i n with h|h
   ·exact absurd ⟨i,h,hn⟩ h'
   omega
  subst this;refine⟨i,by omega,hn,λj hj=>?_⟩;by_cases hj2:O[j]? = X t_
  ·exact hj2
  exact absurd ⟨j,hj,hj2⟩ h'
def OF {l:L_ Nat}{k:Nat}:XX l k=t_↔k∈l:=by
 induction l with
 |nil=>simp[XX]|cons x l O=>
  simp only[XX,KG,O,XP];constructor
  ·rintro (h|h)
   ·exact .inl (Yp h).symm
   exact .inr h
  rintro (h|h)
  ·subst h;exact .inl (by simp)
  exact .inr h
def ED {l:L_ Nat}:Ik l=t_↔l.Nodup:=by
 induction l with
 |nil=>simp[Ik]|cons x l ih=>
  simp only[Ik,QN,ih,NI];constructor
  ·rintro ⟨h,O⟩;refine⟨λhm=>?_,O⟩;rw[OF.2 hm]at h;cases h
  rintro ⟨h,O⟩;refine⟨?_,O⟩;cases hb:XX l x with|false=>rfl|true=>exact absurd (OF.1 hb) h
end
inductive Vw (hp:List (Nat×Ob)) (g sc:Bool) (bad:List Nat) (m:Nat->Nat->Prop):V->V->Prop where
 |dat (v:V):v.datA=t_->(sc=t_->v.scaA=t_)->Vw hp g sc bad m v v
 |nil (z:Nat):Vw hp g sc bad m (.lit (.slice n_ 0 0)) (.sl z [])
 |see (b n z:Nat) (rs us:List (List V)):g=t_->sc=f_->XX bad b=f_->look hp b=X (.arr z rs)->n<=rs.length->rs.take n=us->Vw hp g sc bad m (.own b n) (.sl z us)
 |own (a b n:Nat):m a b->Vw hp g sc bad m (.own a n) (.own b n)
 |loc (a b i d:Nat):m a b->Vw hp g sc bad m (.loc a i d) (.loc b i d)
 |map (a b:Nat):m a b->Vw hp g sc bad m (.map a) (.map b)
 |agg (cs us:List V):cs.length=us.length->(∀(j:Nat) c u,cs[j]? = X c->us[j]? = X u->Vw hp g sc bad m c u)->Vw hp g sc bad m (.agg cs) (.agg us)
 |tup (cs us:List V):cs.length=us.length->(∀(j:Nat) c u,cs[j]? = X c->us[j]? = X u->Vw hp g sc bad m c u)->Vw hp g sc bad m (.tup cs) (.tup us)
 |ifc (t:TypeId) (v u:V):Vw hp g sc bad m v u->Vw hp g sc bad m (.ifc t v) (.ifc t u)
 |clo (fn:Fn) (vs us cs ds:List V):vs.length=us.length->cs.length=ds.length->(∀(j:Nat) c u,vs[j]? = X c->us[j]? = X u->Vw hp g sc bad m c u)->
   (∀(j:Nat) c u,cs[j]? = X c->ds[j]? = X u->Vw hp g sc bad m c u)->Vw hp g sc bad m (.clo fn vs cs) (.clo fn us ds)
 |forget (v:V):Vw hp g sc bad m v .J
section
variable {hp:H_}{g sc:Bool}{bad:L_ Nat}{m:Nat->Nat->Prop}{Z ψ:Nat->O_ Xh}{I J:Nat->Prop}{w w':World}
def Vw.sound (hm:∀a b B,m a b->Z a=X B->ψ b=X B)(hI:sc=f_->∀k,I k->J k/\w'.heap[k]? = w.heap[k]?)
  (hown:∀b z rs B,g=t_->XX bad b=f_->look hp b=X (.arr z rs)->Z b=X B->J B.b/\w'.heap[B.b]? = w.heap[B.b]? /\ YW I w B z rs)
  {v u:V} (h:Vw hp g sc bad m v u):∀{x:Value},QW Z I w x v->QW ψ J w' x u:=by
 induction h with
 |dat v hv hs=>
  intro x O;cases sc with|true=>exact O.scaA (hs rfl)|false=>exact O.datA hv (hI rfl)
 |nil z=>intro x O;rw[O.lit_inv];exact .dat (.sl0 _ _ _)|see b n z rs us hg hsc hbad hb hle hu=>
  intro x O;subst hu;rcases O.own_inv with⟨rfl,rfl⟩|⟨B,hB,hcap,rfl⟩
  ·simp only[List.take_zero];exact .dat (.sl0 _ _ _)
  obtain⟨hJ,hw,rfl,hrl,hok,cs,E,h1,h2,h3⟩:=hown b z rs B hg hbad hb hB;refine .dat (.sl B.b B.off n B.cap B.z _ (λj=>cs.getD (B.off+j) undef) hJ (by simp;omega) hcap (λr hr'=>hok r (FQ hr')) (λj hj=>?_) (λi r hi j v hj=>?_))
  ·have hle2:n*B.z<=B.cap*B.z:=Jr _ hcap;have:B.off+j<cs.size:=by omega
   simp[World.cell?,hw,h1,Array.getD,this]
  have hi':rs[i]? = X r:=by
   rw[Kd]at hi;by_cases hin:i<n
   ·rwa[if_pos hin]at hi
   rw[if_neg hin]at hi;simp at hi
  obtain⟨y,hy,hd⟩:=h3 i r hi' j v hj;have:cs.getD (B.off+(i*B.z+j)) undef=y:=by simp[QfA,hy]
  rw[this];exact hd.mono (hI hsc)
 |own a b n hab=>
  intro x O;rcases O.own_inv with⟨rfl,rfl⟩|⟨B,hB,hcap,rfl⟩
  ·exact .own0 b
  exact .own b n B (hm a b B hab hB) hcap
 |loc a b i d hab=>intro x O;obtain⟨B,hB,rfl⟩:=O.loc_inv;exact .loc b i d B (hm a b B hab hB)
 |map a b hab=>intro x O;obtain⟨B,hB,rfl⟩:=O.map_inv;exact .map b B (hm a b B hab hB)
 |agg cs us hl _ ih=>
  intro x O;obtain⟨xs,rfl,hs,hc⟩:=O.agg_inv;refine .agg xs us (by omega) λj y u hy hu=>?_;have hj:j<cs.length:=by rw[<-hs];exact(Cg.1 hy).1
  exact ih j cs[j] u (Qv hj) hu (hc j y _ hy (Qv hj))
 |tup cs us hl _ ih=>
  intro x O;obtain⟨xs,rfl,hs,hc⟩:=O.tup_inv;refine .tup xs us (by omega) λj y u hy hu=>?_;have hj:j<cs.length:=by rw[<-hs];exact(Cg.1 hy).1
  exact ih j cs[j] u (Qv hj) hu (hc j y _ hy (Qv hj))
 |ifc t v u _ ih=>intro x O;obtain⟨y,rfl,hy⟩:=O.ifc_inv;exact .ifc t y u (ih hy)
 |clo fn vs us cs ds h1 h2 _ _ ih1 ih2=>
  intro x O;obtain⟨xs,ys,rfl,e1,e2,e3,e4⟩:=O.clo_inv;refine .clo fn xs ys us ds (by omega) (by omega) (λj y u hy hu=>?_) (λj y u hy hu=>?_)
  ·have hj:j<vs.length:=by rw[<-e1];exact(Cg.1 hy).1
   exact ih1 j vs[j] u (Qv hj) hu (e3 j y _ hy (Qv hj))
  have hj:j<cs.length:=by rw[<-e2];exact(Cg.1 hy).1
  exact ih2 j cs[j] u (Qv hj) hu (e4 j y _ hy (Qv hj))
 |forget v=>intro x O;exact .dat (.J x)
inductive ObW (hp:List (Nat×Ob)) (g sc:Bool) (bad:List Nat) (m:Nat->Nat->Prop):Ob->Ob->Prop where
 |var (cs us:List V):cs.length=us.length->(∀(j:Nat) c u,cs[j]? = X c->us[j]? = X u->Vw hp g sc bad m c u)->ObW hp g sc bad m (.var cs) (.var us)
 |arr (z:Nat) (rs:List (List V)):(sc=t_->∀r∈rs,∀v∈r,v.sca=t_)->ObW hp g sc bad m (.arr z rs) (.arr z rs)
 |map (l:List (V×V)):(sc=t_->∀p∈l,p.1.sca=t_/\p.2.sca=t_)->ObW hp g sc bad m (.map l) (.map l)
 |lp (l:Nat) (K:HP) (cs us:List V) (q:Nat):cs.length=us.length->(∀(j:Nat) c u,cs[j]? = X c->us[j]? = X u->Vw hp g sc bad m c u)->ObW hp g sc bad m (.lp l K cs q) (.lp l K us q)
 |grp (z:Nat) (l:List (V×List (List V))) (lk:Option V):sc=f_->ObW hp g sc bad m (.grp z l lk) (.grp z l lk)
 |tbl (A:Nat->Nat) (z:Nat) (rs:List (List V)):sc=f_->ObW hp g sc bad m (.tbl A z rs) (.tbl A z rs)
def ObW.nil {ob ob':Ob}(h:ObW hp g sc bad m ob ob')(O:ob.Nil):ob'.Nil:=by cases h<;>first|exact O|exact O.elim
def ObW.sound (hm:∀a b B,m a b->Z a=X B->ψ b=X B)(hI:sc=f_->∀k,I k->J k/\w'.heap[k]? = w.heap[k]?)
  (hown:∀b z rs B,g=t_->XX bad b=f_->look hp b=X (.arr z rs)->Z b=X B->J B.b/\w'.heap[B.b]? = w.heap[B.b]? /\ YW I w B z rs)
  {B:Xh} (hB:∀k,B.has k->w'.heap[k]? = w.heap[k]?) {ob ob':Ob} (h:ObW hp g sc bad m ob ob') (hr:KH Z I w B ob):KH ψ J w' B ob':=by
 cases h with
 |var cs us hl hv=>
  obtain⟨xs,E,h1,h2,h0,h3⟩:=hr;refine⟨xs,E,(hB _ B.self).trans h1,by omega,h0,λj x u O hu=>?_⟩;have hj:j<cs.length:=by rw[<-h2];exact(Cg.1 O).1
  exact(hv j cs[j] u (Qv hj) hu).sound hm hI hown (h3 j x _ O (Qv hj))
 |arr z rs hs=>
  cases sc with
  |false=>exact YW.mono (hI rfl) (hB _ B.self) hr|true=>
   obtain⟨h1,h2,h3,cs,E,h4,h5,h6⟩:=hr;exact⟨h1,h2,h3,cs,E,(hB _ B.self).trans h4,h5,λi r hi j v hj=>let ⟨x,O,hd⟩:=h6 i r hi j v hj;⟨x,O,hd.sca (hs rfl r (XB hi) v (XB hj))⟩⟩
 |map l hs=>
  cases sc with
  |false=>exact EA.mono (hI rfl) (hB _ B.self) hr|true=>
   obtain⟨es,clock,h1,h2,h3,h4,h5,h6⟩:=hr;exact⟨es,clock,(hB _ B.self).trans h1,h2,h3,h4,λx O=>let ⟨p,hp,a,b⟩:=h5 x O;⟨p,hp,a.sca (hs rfl p hp).1,b.sca (hs rfl p hp).2⟩,λp hp=>let ⟨x,O,a,b⟩:=h6 p hp;⟨x,O,a.sca (hs rfl p hp).1,b.sca (hs rfl p hp).2⟩⟩
 |lp l K cs us q hl hv=>
  obtain⟨tmps,D,rfl,h1,h2,h3,h4⟩:=hr;refine⟨tmps,D,rfl,h1,(hB _ B.self).trans h2,by omega,λj x u O hu=>?_⟩;have hj:j<cs.length:=by rw[<-h3];exact(Cg.1 O).1
  exact(hv j cs[j] u (Qv hj) hu).sound hm hI hown (h4 j x _ O (Qv hj))
 |grp z l lk hs=>exact UX.mono (hI hs) hB hr|tbl A z rs hs=>exact Ch.mono (hI hs) hB hr
end
inductive Vws (hp:List (Nat×Ob)) (g sc:Bool) (bad:List Nat) (m:Nat->Nat->Prop):List V->List V->Prop where
 |nil:Vws hp g sc bad m [] []
 |cons {v u:V} {vs us:List V}:Vw hp g sc bad m v u->Vws hp g sc bad m vs us->Vws hp g sc bad m (v::vs) (u::us)
def Vws.get {hp:H_}{g sc:Bool}{bad:L_ Nat}{m:Nat->Nat->Prop}:∀{vs us:L_ V},Vws hp g sc bad m vs us->
  vs.length=us.length/\∀(j:Nat) v u,vs[j]? = X v->us[j]? = X u->Vw hp g sc bad m v u:=by
 intro vs us h
 induction h with
 |nil=>simp|cons h1 _ ih=>
  refine⟨by simp[ih.1],λj v u hv O=>?_⟩;cases j with|zero=>simp at hv O;subst hv;subst O;exact h1|succ j=>exact ih.2 j v u hv O
inductive Rx (hp:List (Nat×Ob)) (g sc:Bool) (bad:List Nat) (m:Nat->Nat->Prop) (src:List (Nat×Ob)):List (Nat×Nat)->List (Nat×Ob)->Prop where
 |nil:Rx hp g sc bad m src [] []
 |cons {d s:Nat} {ob ob':Ob} {ms:List (Nat×Nat)} {r:List (Nat×Ob)}:look src s=X ob->ObW hp g sc bad m ob ob'->Rx hp g sc bad m src ms r->Rx hp g sc bad m src ((d,s)::ms) ((d,ob')::r)
section
variable {hp src:H_}{g sc:Bool}{bad:L_ Nat}{m:Nat->Nat->Prop}
def Rx.get {ms:L_ (Nat×Nat)}{hs:H_}(h:Rx hp g sc bad m src ms hs):(∀d ob',look hs d=X ob'->∃s ob,look ms d=X s/\look src s=X ob/\ObW hp g sc bad m ob ob')/\
  ∀d s,look ms d=X s->∃ob',look hs d=X ob':=by
 induction h with
 |nil=>exact⟨λ_ _ h=>(by cases h),λ_ _ h=>(by cases h)⟩
 |@cons d s ob ob' ms r h1 h2 _ ih=>
  refine⟨λO o h=>?_,λO s' h=>?_⟩
  ·by_cases e:d=O
   ·subst e;rw[QD]at h ⊢;cases h;exact⟨s,ob,rfl,h1,h2⟩
   rw[QA _ _ e]at h ⊢;exact ih.1 O o h
  by_cases e:d=O
  ·subst e;rw[QD]at h ⊢;exact⟨_,rfl⟩
  rw[QA _ _ e]at h ⊢;exact ih.2 O s' h
end
def Bx (l:L_ (Nat×Nat)):L_ Nat:=l.map Prod.snd
def OG : L_ (Nat×Nat)->Bool
 |[]=>t_|(_,s)::r=>!(XX (Bx r) s)&&OG r
def QiU : ∀{l:L_ (Nat×Nat)} {d s:Nat},look l d=X s->XX (Bx l) s=t_:=by
 intro l
 induction l with
 |nil=>intro d s h;cases h
 |cons p l O=>
  intro d s h;obtain⟨k,u⟩:=p;by_cases e:k=d
  ·subst e;rw[QD]at h;cases h;simp[Bx,XX]
  rw[QA _ _ e]at h;have:=O h;simp only[Bx,GC,XX,KG];exact .inr this
def Qlo : ∀{l:L_ (Nat×Nat)},OG l=t_->∀{a b s:Nat},look l a=X s->look l b=X s->a=b:=by
 intro l
 induction l with
 |nil=>intro _ a b s h;cases h
 |cons p l ih=>
  intro hi a b s O h2;obtain⟨k,u⟩:=p;rw[OG,QN]at hi;by_cases e1:k=a<;>by_cases e2:k=b
  ·rw[<-e1,<-e2]
  ·subst e1;rw[QD]at O;cases O;rw[QA _ _ e2]at h2;rw[QiU h2]at hi;simp at hi
  ·subst e2;rw[QD]at h2;cases h2;rw[QA _ _ e1]at O;rw[QiU O]at hi;simp at hi
  rw[QA _ _ e1]at O;rw[QA _ _ e2]at h2;exact ih hi.2 O h2
def Qso : ∀{l:L_ (Nat×Nat)} {s:Nat},XX (Bx l) s=t_->∃d,(d,s)∈l:=by
 intro l
 induction l with
 |nil=>intro s h;cases h
 |cons p l ih=>
  intro s h;simp only[Bx,GC,XX,KG]at h;rcases h with h|h
  ·exact⟨p.1,by rw[<-Yp h];exact Yc⟩
  obtain⟨d,O⟩:=ih h;exact⟨d,Ys _ O⟩
def St.killL (Y:St):L_ Nat->St
 |[]=>Y|b::r=>(Y.kill b).killL r
def QfI (Z:Nat->O_ Xh):L_ Nat->Nat->O_ Xh
 |[]=>Z|b::r=>QfI (BQ Z b) r
def BR : ∀{ds:L_ Nat} {Z:Nat->O_ Xh} {k:Nat} {B:Xh},QfI Z ds k=X B->XX ds k=f_/\Z k=X B:=by
 intro ds
 induction ds with
 |nil=>intro Z k B h;exact⟨rfl,h⟩|cons b ds ih=>
  intro Z k B h;obtain⟨O,h2⟩:=ih h;obtain⟨h3,h4⟩:=WH h2;refine⟨?_,h4⟩;simp only[XX,Ku];refine⟨?_,O⟩;cases hb:Nat.beq b k with|false=>rfl|true=>exact absurd (Yp hb).symm h3
def Qhc : ∀{ds:L_ Nat} {Z:Nat->O_ Xh} {k:Nat},XX ds k=f_->QfI Z ds k=Z k:=by
 intro ds
 induction ds with
 |nil=>intro Z k h;rfl|cons b ds O=>
  intro Z k h;simp only[XX,Ku]at h;rw[QfI,O h.2,EW (λe=>by subst e;simp at h)]
def QrA : ∀(ds:L_ Nat) (Y:St) (t:Nat) (v:V),look (Y.killL ds).fr t=X v->∃O,look Y.fr t=X O/\∀Z I w x,QW Z I w x O->QW (QfI Z ds) I w x v:=by
 intro ds
 induction ds with
 |nil=>intro Y t v h;exact⟨v,h,λ_ _ _ _ h=>h⟩|cons b ds ih=>
  intro Y t v h;obtain⟨v1,h1,h2⟩:=ih (Y.kill b) t v h;obtain⟨v2,h3,rfl⟩:=Qa0 _ _ _ h1;exact⟨v2,h3,λZ I w x hx=>h2 _ _ _ _ (hx.kill (λo B ho hB=>by rw[EW ho];exact hB) λk hk=>⟨hk,rfl⟩)⟩
def Qh5 : ∀(ds:L_ Nat) (Y:St) (o:Nat) (ob:Ob),look (Y.killL ds).hp o=X ob->XX ds o=f_/\∃ob',look Y.hp o=X ob'/\
  (∀Z I w B,KH Z I w B ob'->KH (QfI Z ds) I w B ob)/\(ob'.Nil->ob.Nil):=by
 intro ds
 induction ds with
 |nil=>intro Y t v h;exact⟨rfl,v,h,λ_ _ _ _ h=>h,λh=>h⟩|cons b ds ih=>
  intro Y t v h;obtain⟨h0,v1,h1,h2,O⟩:=ih (Y.kill b) t v h;obtain⟨hne,v2,h3,rfl⟩:=Dt _ _ _ h1;refine⟨?_,v2,h3,λZ I w B hB=>h2 _ _ _ _ (hB.kill (λo B ho hB=>by rw[EW ho];exact hB) (λk hk=>⟨hk,rfl⟩) λ_ _=>rfl),λe=>O e.kill⟩;simp only[XX,Ku];refine⟨?_,h0⟩;cases hb:Nat.beq b t with|false=>rfl|true=>exact absurd (Yp hb).symm hne
def QnL : ∀(ds:L_ Nat) (Y:St) (o:Nat) (ob:Ob),XX ds o=f_->look Y.hp o=X ob->∃ob',look (Y.killL ds).hp o=X ob':=by
 intro ds
 induction ds with
 |nil=>intro Y o ob _ h;exact⟨ob,h⟩|cons b ds ih=>
  intro Y o ob O h;simp only[XX,Ku]at O;exact ih (Y.kill b) o _ O.2 (Ci _ _ _ (λe=>by subst e;simp at O) h)
def Qsa : O_ Ob->Bool
 |some _=>t_|none=>f_
def QqS {x:O_ Ob}(h:Qsa x=t_):∃ob,x=X ob:=by
 cases x with
 |none=>cases h
 |some ob=>exact⟨ob,rfl⟩
def QiV (x:O_ Nat)(n:Nat):Bool:=match x with|some k=>Nat.beq k n|none=>f_
def Qhd {x:O_ Nat}{n:Nat}(h:QiV x n=t_):x=X n:=by
 cases x with
 |none=>cases h
 |some k=>rw[Yp h]
def Ug (Y:St)(M N:L_ (Nat×Nat))(dead:L_ Nat)(outs:H_):Bool:=
 OG M&&OG N&&M.all (λp=>Nat.ble 619 p.1&&(XX dead p.2||(Nat.ble 621 p.1&&QiV (look N p.2) p.1&&Qsa (look outs p.1)))) &&
 N.all (λp=>(XX dead p.1||XX (Bx M) p.1||(look Y.hp p.1).isNone)&&(Nat.ble 619 p.1||!(Nat.ble 619 p.2)||M.all (λq=>!(Nat.ble 619 q.2)||(Nat.ble 621 q.1&&Qsa (look outs q.1)&&QiV (look N q.2) q.1))) &&
  (!(Nat.ble 621 p.1)||(Nat.ble 621 p.2&&QiV (look M p.2) p.1)))
structure Names (Y:St) (M N:List (Nat×Nat)) (dead:List Nat) (outs:List (Nat×Ob)):Prop where
 injM:∀{a b s:Nat},look M a=X s->look M b=X s->a=b
 injN:∀{a b s:Nat},look N a=X s->look N b=X s->a=b
 param:∀{c a:Nat},look M c=X a->619<=c
 keep:∀{c a:Nat},look M c=X a->XX dead a=t_\/(621<=c/\look N a=X c/\∃ob,look outs c=X ob)
 fresh:∀{a c:Nat},look N a=X c->XX dead a=t_\/(∃c',look M c'=X a)\/look Y.hp a=n_
 low:∀{a c:Nat},look N a=X c->a<619->c<619\/∀{c' a':Nat},look M c'=X a'->a'<619\/(621<=c'/\(∃ob,look outs c'=X ob)/\look N a'=X c')
 stay:∀{a c:Nat},look N a=X c->621<=a->621<=c/\look M c=X a
def Fw {a n:Nat}(h:(!(Nat.ble n a))=t_):a<n:=by
 rcases DP a n with O|O
 ·exact O
 rw[Vp O]at h;cases h
def Dc : ∀{l:L_ (Nat×Nat)},OG l=t_->∀{d s:Nat},(d,s)∈l->(l.map Prod.fst).Nodup->look l d=X s:=by
 intro l
 induction l with
 |nil=>intro _ d s h;cases h
 |cons p l ih=>
  intro hi d s h O;obtain⟨k,u⟩:=p;rw[OG,QN]at hi;rw[GC,NI]at O;rcases XP.1 h with h|h
  ·cases h;exact QD _ _ _
  have hk:k≠d:=λe=>O.1 (by rw[e];exact Yt.2 ⟨(d,s),h,rfl⟩);rw[QA _ _ hk];exact ih hi.2 h O.2
def Names.of {Y:St}{M N:L_ (Nat×Nat)}{dead:L_ Nat}{outs:H_}(h:Ug Y M N dead outs=t_)(hnd:(M.map Prod.fst).Nodup):Names Y M N dead outs:=by
 simp only[Ug,QN,XS]at h;obtain⟨⟨⟨h1,h2⟩,h3⟩,h4⟩:=h;have pM:∀{c a:Nat},look M c=X a->Nat.ble 619 c=t_/\(XX dead a=t_\/(Nat.ble 621 c=t_/\QiV (look N a) c=t_)/\Qsa (look outs c)=t_):=λO=>by
  have:=h3 _ (JX O);simpa only[KG,QN] using this
 have pN:=λ{a c:Nat} (O:look N a=X c)=>h4 _ (JX O);refine⟨Qlo h1,Qlo h2,λO=>JC (pM O).1,λO=>?_,λO=>?_,λO hlt=>?_,λO hge=>?_⟩
 ·rcases(pM O).2 with h|⟨⟨a1,a2⟩,a3⟩
  ·exact .inl h
  exact .inr ⟨JC a1,Qhd a2,QqS a3⟩
 ·have:=(pN O).1.1;simp only[KG]at this;rcases this with(h|h)|h
  ·exact .inl h
  ·obtain⟨c',hc'⟩:=Qso h;exact .inr (.inl ⟨c',Dc h1 hc' hnd⟩)
  exact .inr (.inr (by simpa using h))
 ·have:=(pN O).1.2;simp only[KG]at this;rcases this with(h|h)|h
  ·exact absurd (JC h) (by omega)
  ·exact .inl (Fw h)
  refine .inr λ{c' a'} hl'=>?_;rw[XS]at h;have:=h _ (JX hl');rw[KG,QN,QN]at this;rcases this with h|⟨⟨h1,h2⟩,h3⟩
  ·exact .inl (Fw h)
  exact .inr ⟨JC h1,QqS h2,Qhd h3⟩
 have:=(pN O).2;simp only[KG,QN]at this;rcases this with h|h
 ·exact absurd (Fw h) (by omega)
 exact⟨JC h.1,Qhd h.2⟩
def Qkd (C:XC)(Z:Nat->O_ Xh)(w:World)(g:Bool)(bad:L_ Nat)(k:Nat):Prop:=Xp C Z w k\/(g=t_/\∃o B,Z o=X B/\B.has k/\XX bad o=f_)
section
variable {P:Program}{C:XC}{Z:Nat->O_ Xh}{Y:St}{a:Act}{w:World}{o:Oper}
def Ins.of_vals {g:Bool}{M:L_ (Nat×Nat)}{hsC:H_}{vs us:L_ V}{vals:L_ Value}(hr:RR C Z Y a w)(h1:vals.length=vs.length)
  (h2:∀(j:Nat) x v,vals[j]? = X x->vs[j]? = X v->QW Z (Xp C Z w) w x v)
  (hinj:∀{a b s:Nat},look M a=X s->look M b=X s->a=b) (hpar:∀{c a:Nat},look M c=X a->619<=c)
  (hv:Vws Y.hp g f_ (Bx M) (λa b=>look M b=X a) vs us) (hobs:Rx Y.hp g f_ (Bx M) (λa b=>look M b=X a) Y.hp M hsC):
  Ins (Qkd C Z w g (Bx M)) (λc=>(look M c).bind Z) w vals.toArray us hsC:=by
 obtain⟨h3,h4⟩:=hv.get;obtain⟨h5,h6⟩:=hobs.get;have hm:∀a b B,look M b=X a->Z a=X B->(look M b).bind Z=X B:=λa b B h1 h2=>by rw[h1];exact h2
 have hI:f_=f_->∀k,Xp C Z w k->Qkd C Z w g (Bx M) k/\w.heap[k]? = w.heap[k]? := λ_ k hk=>⟨.inl hk,rfl⟩;have hown:∀b z rs B,g=t_->XX (Bx M) b=f_->look Y.hp b=X (.arr z rs)->Z b=X B->Qkd C Z w g (Bx M) B.b/\w.heap[B.b]? = w.heap[B.b]? /\ YW (Xp C Z w) w B z rs:=
  λb z rs B hg O hb hB=>⟨.inr ⟨hg,b,B,hB,B.self,O⟩,rfl,hr.block hB hb⟩
 have inv:∀{c:Nat} {B:Xh},(look M c).bind Z=X B->∃s,look M c=X s/\Z s=X B:=λh=>by
  obtain⟨s,h1,h2⟩:=Vq.1 h;exact⟨s,h1,h2⟩
 refine⟨λk hk=>?_,λc c' B B' k e1 e2 b1 b2=>?_,λc B e=>?_,by simp;omega,λj x u hx hu=>?_,λc ob e=>?_⟩
 ·rcases hk with hk|⟨_,o,B,hB,hk,_⟩
  ·exact hk.1
  exact(hr.lt o B k hB hk).1
 ·obtain⟨s,e3,e4⟩:=inv e1;obtain⟨s',e5,e6⟩:=inv e2;have:=hr.inj s s' B B' k e4 e6 b1 b2;subst this;exact hinj e3 e5
 ·obtain⟨s,e3,e4⟩:=inv e;refine⟨hpar e3,λk hk=>⟨(hr.lt s B k e4 hk).1,λhS=>?_⟩,h6 c s e3⟩;rcases hS with hS|⟨_,o,B',hB',hk',O⟩
  ·exact hS.2.2 s B e4 hk
  have:=hr.inj o s B' B k hB' e4 hk' hk;subst this;rw[QiU e3]at O;cases O
 ·simp only[CS]at hx;have hj:j<vs.length:=by rw[<-h1];exact(Xf.1 hx).1
  exact(h4 j vs[j] u (Qv hj) hu).sound hm hI hown (h2 j x _ hx (Qv hj))
 obtain⟨s,ob0,e1,e2,e3⟩:=h5 c ob e;rcases hr.heap s ob0 e2 with⟨B,hB,hrep⟩|⟨hn,hz⟩
 ·exact .inl ⟨B,by rw[e1];exact hB,e3.sound hm hI hown (λ_ _=>rfl) hrep⟩
 exact .inr ⟨by rw[e1];exact hn,e3.nil hz⟩
def Ry (Z:Nat->O_ Xh)(M N:L_ (Nat×Nat))(dead:L_ Nat)(φ':Nat->O_ Xh):Nat->O_ Xh:=λo=>match look N o with|some c=>φ' c|none=>QfI Z dead o
def St.after (Y:St)(dead:L_ Nat)(h:H_):St:=⟨(Y.killL dead).fr,h++(Y.killL dead).hp⟩
def BS {α:Type}:∀(l r:L_ (Nat×α)) (t:Nat),look (l++r) t=(look l t).orElse λ_=>look r t:=by
 intro l
 induction l with
 |nil=>intro r t;rfl|cons p l h=>
  intro r t;obtain⟨k,u⟩:=p;by_cases e:k=t
  ·subst e;rw[QgY,QD,QD];rfl
  rw[QgY,QA _ _ e,QA _ _ e];exact h r t
def RR.after {g:Bool}{M N:L_ (Nat×Nat)}{dead:L_ Nat}{outs hsN hs':H_}{φ':Nat->O_ Xh}{w':World}{x:Value}{v:V}(hr:RR C Z Y a w)(hn:Names Y M N dead outs)
  (ho:Outs (Qkd C Z w g (Bx M)) (λc=>(look M c).bind Z) w φ' w' x v hs') (hso:∀c ob,look outs c=X ob->look hs' c=X ob)
  (hM:∀c s,look M c=X s->∃ob,look Y.hp s=X ob) (hback:Rx [] f_ g [] (λc b=>look N b=X c) outs N hsN):RR C (Ry Z M N dead φ') (Y.after dead hsN) a w'/\∀{r':V},Vw [] f_ g [] (λc b=>look N b=X c) v r'->
   QW (Ry Z M N dead φ') (Xp C (Ry Z M N dead φ') w') w' x r':=by
 have inv:∀{c:Nat} {B:Xh},(look M c).bind Z=X B->∃s,look M c=X s/\Z s=X B:=λh=>by
  obtain⟨s,h1,h2⟩:=Vq.1 h;exact⟨s,h1,h2⟩
 have jN:∀{b c:Nat},look N b=X c->Ry Z M N dead φ' b=φ' c:=λh=>by simp only[Ry,h]
 have jO:∀{b:Nat},look N b=n_->Ry Z M N dead φ' b=QfI Z dead b:=λh=>by simp only[Ry,h]
 obtain⟨hb1,hb2⟩:=hback.get;have old:∀{c B k},φ' c=X B->B.has k->k<w.heap.size->∃c' s B',look M c'=X s/\Z s=X B'/\B'.has k:=λO hk hlt=>by
  obtain⟨c',B',h1,h2⟩:=(ho.lt _ _ _ O hk).2 hlt;obtain⟨s,h3,h4⟩:=inv h1;exact⟨c',s,B',h3,h4,h2⟩
 have keep:∀o B,QfI Z dead o=X B->Ry Z M N dead φ' o=X B:=λo B O=>by
  cases hl:look N o with
  |none=>rw[jO hl];exact O|some c=>
   rw[jN hl];obtain⟨h1,h2⟩:=BR O;rcases hn.fresh hl with h|⟨c',h⟩|h
   ·rw[h]at h1;cases h1
   ·rcases hn.keep h with h3|⟨h3,h4,ob5,h5⟩
    ·rw[h3]at h1;cases h1
    rw[hl]at h4;cases h4;exact ho.stay.2 c ob5 B h3 (hso _ _ h5) (by show(look M c).bind Z=X B;rw[h];exact h2)
   rw[hr.none_of_look h]at h2;cases h2
 have untouched:∀k,k<w.heap.size->(∀s B,Z s=X B->B.has k->∀c,look M c≠X s)->w'.heap[k]? = w.heap[k]? := λk hlt hne=>
  ho.kept k hlt λc B O hk=>by obtain⟨s,h1,h2⟩:=inv O;exact hne s B h2 hk c h1
 have hI:∀k,Xp C Z w k->Xp C (Ry Z M N dead φ') w' k/\w'.heap[k]? = w.heap[k]? := λk hk=>by
  refine⟨⟨Ez hk.1 ho.size,hk.2.1,λo B O hh=>?_⟩,untouched k hk.1 λs B O hh=>absurd hh (hk.2.2 s B O)⟩;cases hl:look N o with
  |none=>rw[jO hl]at O;exact hk.2.2 o B (BR O).2 hh|some c=>
   rw[jN hl]at O;obtain⟨c',s,B',_,h2,h3⟩:=old O hh hk.1;exact hk.2.2 s B' h2 h3
 have hA:g=f_->∀k,Aft (Qkd C Z w g (Bx M)) φ' w w' k->Xp C (Ry Z M N dead φ') w' k/\w'.heap[k]? = w'.heap[k]? := λhg k hk=>by
  obtain⟨h1,h2,h3⟩:=hk;by_cases hlt:k<w.heap.size
  ·rcases h2 hlt with h|⟨h,_⟩
   ·exact⟨(hI k h).1,rfl⟩
   rw[hg]at h;cases h
  refine⟨⟨h1,λh=>absurd hr.size (by omega),λo B O hh=>?_⟩,rfl⟩;cases hl:look N o with|none=>rw[jO hl]at O;have:=(hr.lt o B k (BR O).2 hh).1;omega|some c=>rw[jN hl]at O;exact h3 c B O hh
 have hmB:∀c b B,look N b=X c->φ' c=X B->Ry Z M N dead φ' b=X B:=λc b B h1 h2=>by rw[jN h1];exact h2
 have hownB:∀b z rs B,f_=t_->XX [] b=f_->look ([]:H_) b=X (.arr z rs)->φ' b=X B->
   Xp C (Ry Z M N dead φ') w' B.b/\w'.heap[B.b]? = w'.heap[B.b]? /\ YW (Aft (Qkd C Z w g (Bx M)) φ' w w') w' B z rs:=λ_ _ _ _ h=>by cases h
 have stay2:∀o ob B,621<=o->look (Y.after dead hsN).hp o=X ob->C.φ0 o=X B->Ry Z M N dead φ' o=X B:=λo ob B hge hob O=>by
  rw[St.after,BS]at hob;cases hx:look hsN o with
  |some y=>
   obtain⟨c,ob1,h1,h2,h3⟩:=hb1 o _ hx;obtain⟨h4,h5⟩:=hn.stay h1 hge;obtain⟨ob2,h6⟩:=hM _ _ h5;have h7:=hr.stay.2 o ob2 B hge h6 O;rw[jN h1];exact ho.stay.2 c ob1 B h4 (hso _ _ h2) (by show(look M c).bind Z=X B;rw[h5];exact h7)
  |none=>
   rw[hx]at hob;have l:look N o=n_:=by
    cases l:look N o with|none=>rfl|some c=>obtain⟨ob',h'⟩:=hb2 o c l;rw[hx]at h';cases h'
   obtain⟨h1,ob',h2,_,_⟩:=Qh5 dead Y o ob hob;rw[jO l,Qhc h1];exact hr.stay.2 o ob' B hge h2 O
 refine⟨⟨ho.os.trans hr.os,ho.tape.trans hr.tape,ho.output.trans hr.output,Yq hr.size ho.size,λk h1 h2=>?_,λo1 o2 B1 B2 k e1 e2 b1 b2=>?_,λo B O=>?_,λo B k O hk=>?_,λo B k O hk hlt=>?_,
  ⟨λo B hge O=>?_,stay2⟩,hr.tmps,hr.defers.mono hI,λt u hu=>?_,λo ob hob=>?_⟩,λhv=>hv.sound hmB hA hownB ho.rep⟩
 ·rw[untouched k (Ez h1 hr.size) λs B O hh=>absurd ((hr.lt s B k O hh).2 h1) h2];exact hr.kept k h1 h2
 ·cases l1:look N o1 with
  |some c1=>
   rw[jN l1]at e1;cases l2:look N o2 with
   |some c2=>
    rw[jN l2]at e2;have:=ho.inj c1 c2 B1 B2 k e1 e2 b1 b2;subst this;exact hn.injN l1 l2
   |none=>
    rw[jO l2]at e2;obtain⟨g1,g2⟩:=BR e2;obtain⟨c',s,B',h1,h2,h3⟩:=old e1 b1 (hr.lt o2 B2 k g2 b2).1;have:=hr.inj s o2 B' B2 k h2 g2 h3 b2;subst this;rcases hn.keep h1 with h|⟨_,h,_⟩
    ·rw[h]at g1;cases g1
    rw[h]at l2;cases l2
  |none=>
   rw[jO l1]at e1;obtain⟨g1,g2⟩:=BR e1;cases l2:look N o2 with
   |some c2=>
    rw[jN l2]at e2;obtain⟨c',s,B',h1,h2,h3⟩:=old e2 b2 (hr.lt o1 B1 k g2 b1).1;have:=hr.inj s o1 B' B1 k h2 g2 h3 b1;subst this;rcases hn.keep h1 with h|⟨_,h,_⟩
    ·rw[h]at g1;cases g1
    rw[h]at l1;cases l1
   |none=>
    rw[jO l2]at e2;exact hr.inj o1 o2 B1 B2 k g2 (BR e2).2 b1 b2
 ·cases l:look N o with
  |some c=>
   obtain⟨ob,hob⟩:=hb2 o c l;exact⟨ob,by rw[St.after,BS,hob];rfl⟩
  |none=>
   rw[jO l]at O;obtain⟨h1,h2⟩:=BR O;obtain⟨ob,hob⟩:=hr.dom o B h2;obtain⟨ob',hob'⟩:=QnL dead Y o ob h1 hob;rw[St.after,BS];cases hx:look hsN o with|some y=>exact⟨y,rfl⟩|none=>exact⟨ob',hob'⟩
 ·cases l:look N o with
  |some c=>
   rw[jN l]at O;refine⟨(ho.lt c B k O hk).1,λhlt=>?_⟩;obtain⟨c',s,B',h1,h2,h3⟩:=old O hk (Ez hlt hr.size);exact(hr.lt s B' k h2 h3).2 hlt
  |none=>
   rw[jO l]at O;have:=hr.lt o B k (BR O).2 hk;exact⟨Ez this.1 ho.size,this.2⟩
 ·cases l:look N o with
  |some c=>
   rw[jN l]at O;rcases DP k w.heap.size with hlt'|hge
   ·obtain⟨c',s,B',h1,h2,h3⟩:=old O hk hlt';rcases hn.low l hlt with h|h
    ·have:=ho.new c B k O hk h;omega
    rcases h h1 with h|⟨hc',⟨ob',hob'⟩,hN'⟩
    ·exact hr.new s B' k h2 h3 h
    have h4:=ho.stay.2 c' ob' B' hc' (hso _ _ hob') (by show(look M c').bind Z=X B';rw[h1];exact h2);have h5:=ho.inj c c' B B' k O h4 hk h3;subst h5;have:=hn.injN l hN';subst this;exact hr.new _ B' k h2 h3 hlt
   exact Yq hr.size hge
  |none=>rw[jO l]at O;exact hr.new o B k (BR O).2 hk hlt
 ·cases l:look N o with
  |some c=>
   rw[jN l]at O;obtain⟨h1,h2⟩:=hn.stay l hge;obtain⟨s,h3,h4⟩:=inv (ho.stay.1 c B h1 O);rw[h2]at h3;cases h3;exact hr.stay.1 o B hge h4
  |none=>rw[jO l]at O;exact hr.stay.1 o B hge (BR O).2
 ·obtain⟨u',hu',hk⟩:=QrA dead Y t u hu;obtain⟨y,hy,hrep⟩:=hr.frame t u' hu';exact⟨y,hy,(hk _ _ _ _ hrep).mono keep hI⟩
 rw[St.after,BS]at hob;cases hx:look hsN o with
 |some y=>
  rw[hx]at hob;cases hob;obtain⟨c,ob1,h1,h2,h3⟩:=hb1 o _ hx;rcases ho.heap c ob1 (hso _ _ h2)with⟨B,O,hrep⟩|⟨hnone,hz⟩
  ·exact .inl ⟨B,hmB c o B h1 O,h3.sound hmB hA hownB (λ_ _=>rfl) hrep⟩
  exact .inr ⟨by rw[jN h1];exact hnone,h3.nil hz⟩
 |none=>
  rw[hx]at hob;have l:look N o=n_:=by
   cases l:look N o with|none=>rfl|some c=>obtain⟨ob',h'⟩:=hb2 o c l;rw[hx]at h';cases h'
  obtain⟨h1,ob',h2,h3,h4⟩:=Qh5 dead Y o ob hob;rcases hr.heap o ob' h2 with⟨B,O,hrep⟩|⟨hnone,hz⟩
  ·have hBd:QfI Z dead o=X B:=by rw[Qhc h1];exact O
   refine .inl ⟨B,keep o B hBd,(h3 _ _ _ _ hrep).mono keep hI λk hk=>untouched k (hr.lt o B k O hk).1 λs B' hB' hk' c hc=>?_⟩;have:=hr.inj s o B' B k hB' O hk' hk;subst this;rcases hn.keep hc with h|⟨_,h,_⟩
   ·rw[h]at h1;cases h1
   rw[h]at l;cases l
  exact .inr ⟨by rw[jO l,Qhc h1];exact hnone,h4 hz⟩
end
section
variable {P:Program}{C:XC}{Y:St}{o:Oper}
def JP.fn {f:FuncId}{h:Array Operand}{ts:Array TypeId}{vs:L_ V}(ho:o.op=.call { callee:=.value (.func f),args:=h,argTypes:=ts })(he:QfG P f=t_)(ha:Y.opsV h.toList=X vs):
  JP P C o Y f vs:=by
 intro Z a w hr;obtain⟨h1,h2⟩:=hr.opsV _ _ ha;refine⟨h.toList.map a.eval,?_,by simpa using h1,λj x v O hv=>?_⟩
 ·have e2:h.map a.eval=(h.toList.map a.eval).toArray:=by apply Array.ext';simp
  simp only[execOp,ho,resolve,Xl,show a.eval (.func f)=.func (.func f) #[] #[]from rfl,Deferred.ofValue,Xx,Xo,invoke,Array.empty_append,Array.append_empty,e2];exact OE (P:=P) (w:=w) (f:=f) (args:=(h.toList.map a.eval).toArray) he
 simp only[Yj,Yo]at O;obtain⟨y,hy,rfl⟩:=O;exact h2 j y v hy hv
def JP.clo {f:FuncId}{x:Operand}{h:Array Operand}{ts:Array TypeId}{vs fs cs:L_ V}(ho:o.op=.call { callee:=.value x,args:=h,argTypes:=ts })(hx:Y.opd x=X (.clo (.func f) fs cs))
  (he:QfG P f=t_) (ha:Y.opsV h.toList=X vs):JP P C o Y f (fs++(vs++cs)):=by
 intro Z a w hr;obtain⟨h1,h2⟩:=hr.opsV _ _ ha;obtain⟨xs,ys,hev,e1,e2,e3,e4⟩:=(hr.opd hx).clo_inv;have h1':h.size=vs.length:=by simpa using h1
 refine⟨xs.toList++(h.toList.map a.eval++ys.toList),?_,by simp;omega,λj y v O hv=>?_⟩
 ·have e5:(xs++h.map a.eval)++ys=(xs.toList++(h.toList.map a.eval++ys.toList)).toArray:=by apply Array.ext';simp
  simp only[execOp,ho,resolve,Xl,hev,Deferred.ofValue,Xx,Xo,invoke,e5];exact OE (P:=P) (w:=w) (f:=f) (args:=_) he
 by_cases c1:j<fs.length
 ·rw[Jh (by simpa using (by omega:j<xs.size))]at O;rw[Jh c1]at hv;exact e3 j y v (by simpa using O) hv
 rw[Kc (by simp;omega)]at O;rw[Kc (by omega)]at hv;simp only[Array.length_toList]at O;rw[e1]at O;by_cases c2:j-fs.length<vs.length
 ·rw[Jh (by simp;simp at h1;omega)]at O;rw[Jh c2]at hv;simp only[Yj,Yo]at O;obtain⟨z,hz,rfl⟩:=O;exact h2 _ z v hz hv
 have hl:(h.toList.map a.eval).length=vs.length:=by simpa using h1
 rw[Kc (by omega),hl]at O;rw[Kc (by omega)]at hv;exact e4 _ y v (by simpa using O) hv
def CW (P:Program)(t:TypeId)(name:String):O_ (FuncId×Bool):=match P.info? t with
 |some i=>match i.methods.find? (·.name==name)with|some m=>bif m.path.isEmpty then m.func else n_|none=>n_
 |none=>n_
def QlE (P:Program)(t:TypeId):Bool:=match P.underlying t with|some (.pointer _)=>t_|_=>f_
def Qc9 (P:Program)(t:TypeId):Bool:=match P.underlying t with|some (.pointer _)=>f_|some _=>t_|none=>f_
def Qhe {t:TypeId}{name:String}{f:FuncId}{p:Bool}{n:Nat}{v r:Value}{w:World}(h:CW P t name=X (f,p))
  (hr:(receiverAt t (.val v) p (some ((name.splitOn ".").getLastD name))).run P w=.ok r w):(method (n+1) t v name).run P w=.ok (f,r) w:=by
 unfold CW at h;split at h
 ·rename_i i hi;split at h
  ·rename_i m hm;cases hp:m.path.isEmpty with
   |false=>rw[hp]at h;cases h
   |true=>
    rw[hp]at h;simp only[Qr]at h;have hpl:m.path.toList=[]:=by simpa using hp
    simp only[method,typeInfo,Xl,Xx,run_program,Xo,hi,hm,hpl,follow,h,hp,if_true,hr]
  cases h
 cases h
def QpK {t:TypeId}{v:Value}{wr:O_ String}{w:World}(h:QlE P t=t_):(receiverAt t (.val v) t_ wr).run P w=.ok v w:=by
 unfold QlE at h;split at h
 ·rename_i e O;simp[receiverAt,run_underlying O,Place.get]
 cases h
def QpL {t:TypeId}{v:Value}{wr:O_ String}{w:World}(h:Qc9 P t=t_):(receiverAt t (.val v) f_ wr).run P w=.ok v w:=by
 unfold Qc9 at h;split at h
 ·cases h
 ·rename_i d O he;cases d<;>first|exact(O _ rfl).elim|simp[receiverAt,run_underlying he,Place.get]
 cases h
def QeI (P:Program)(t e:TypeId):Bool:=match P.underlying t with|some (.pointer e')=>Nat.beq e' e|_=>f_
def QnM {t e:TypeId}{p:Addr}{m:String}{w:World}{y:Value}(h:QeI P t e=t_)(hl:(loadVar e p).run P w=.ok y w):(receiverAt t (.val (.pointer (X p))) f_ (X m)).run P w=.ok y w:=by
 unfold QeI at h;split at h
 ·rename_i e' he;have:=Yp h;subst this;have hs:(Builtin.ssaWrapNilChk_ #[t] t #[.pointer (some p),strVal "",strVal m]).run P w=.ok (.pointer (some p)) w:=rfl
  simp[receiverAt,run_underlying he,Place.get,hs,asAddr,hl]
 cases h
def JP.meth {f:FuncId}{x:Operand}{name:String}{O:Array Operand}{ts:Array TypeId}{t:TypeId}{vs:L_ V}{u r:V}(ho:o.op=.call { callee:=.invoke x name,args:=O,argTypes:=ts })
  (hx:Y.opd x=X (.ifc t u)) (hm:(CW P t name=X (f,t_)/\QlE P t=t_)\/(CW P t name=X (f,f_)/\Qc9 P t=t_)) (he:QfG P f=t_) (ha:Y.opsV O.toList=X vs):
  JP P C o Y f (u::vs):=by
 intro Z a w hr;obtain⟨h1,h2⟩:=hr.opsV _ _ ha;obtain⟨y,hev,hy⟩:=(hr.opd hx).ifc_inv;refine⟨y::O.toList.map a.eval,?_,by simpa using h1,λj z v hz hv=>?_⟩
 ·have hmeth:(method (P.types.size+Made.depth) t y name).run P w=.ok (f,y) w:=by
   have hd:P.types.size+Made.depth=(P.types.size+(Made.depth-1))+1:=by have:Made.depth=(Made.depth-1)+1:=rfl;omega
   rw[hd];rcases hm with⟨h,hp⟩|⟨h,hp⟩
   ·exact Qhe h (QpK hp)
   exact Qhe h (QpL hp)
  have e2:#[y]++O.map a.eval=(y::O.toList.map a.eval).toArray:=by apply Array.ext';simp
  have e3:(#[Value.iface t y]++O.map a.eval)[0]? = X (.iface t y):=by rw[QlB (by simp)];rfl
  have e4:(#[Value.iface t y]++O.map a.eval).extract 1 (#[Value.iface t y]++O.map a.eval).size=O.map a.eval:=by
   apply Array.ext';simp[YV]
  simp only[execOp,ho,resolve,Xl,hev,Xx,Xo,invoke,e3,e4,callMethod,run_program,hmeth,e2];exact OE (P:=P) (w:=w) (f:=f) (args:=_) he
 cases j with
 |zero=>simp at hz hv;subst hz;subst hv;exact hy|succ j=>
  simp only[Qj9,Yj,Yo]at hz hv;obtain⟨y',hy',rfl⟩:=hz;exact h2 j y' v hy' hv
def JP.methV {f:FuncId}{x:Operand}{name:String}{h:Array Operand}{ts:Array TypeId}{t e:TypeId}{vs cs:L_ V}{b off:Nat}{r:V}(ho:o.op=.call { callee:=.invoke x name,args:=h,argTypes:=ts })
  (hx:Y.opd x=X (.ifc t (.loc b 0 off))) (hm:CW P t name=X (f,f_)) (hp:QeI P t e=t_) (hg:AW P e=X f_) (hb:look Y.hp b=X (.var cs)) (hr0:cs[off]? = X r) (he:QfG P f=t_)
  (ha:Y.opsV h.toList=X vs):JP P C o Y f (r::vs):=by
 intro Z a w hr;obtain⟨h1,h2⟩:=hr.opsV _ _ ha;obtain⟨y,hev,hy⟩:=(hr.opd hx).ifc_inv;obtain⟨B,hB,rfl⟩:=hy.loc_inv;obtain⟨xs,E,e1,e2,e0,e3⟩:=hr.block hB hb;have hlt:off<xs.size:=by rw[e2];exact(Xf.1 hr0).1
 have O:(loadVar e ⟨B.b,B.off+(0*B.z+off),n_⟩).run P w=.ok xs[off] w:=by
  have:=MY (P:=P) (T:=e) (w:=w) (p:=⟨B.b,B.off+(0*B.z+off),n_⟩) (x:=xs[off]) hg (by simp[World.cell?,e1,hlt,e0]);simpa only[Instr.loadAt,Instr.sureAddr,Xl,Xx,Xo] using this
 refine⟨xs[off]::h.toList.map a.eval,?_,by simpa using h1,λj z v hz hv=>?_⟩
 ·have hmeth:(method (P.types.size+Made.depth) t (.pointer (X ⟨B.b,B.off+(0*B.z+off),n_⟩)) name).run P w=.ok (f,xs[off]) w:=by
   have hd:P.types.size+Made.depth=(P.types.size+(Made.depth-1))+1:=by have:Made.depth=(Made.depth-1)+1:=rfl;omega
   rw[hd];exact Qhe hm (QnM hp O)
  have e2:#[xs[off]]++h.map a.eval=(xs[off]::h.toList.map a.eval).toArray:=by apply Array.ext';simp
  have e3:(#[Value.iface t (.pointer (X ⟨B.b,B.off+(0*B.z+off),n_⟩))]++h.map a.eval)[0]? = X (.iface t (.pointer (X ⟨B.b,B.off+(0*B.z+off),n_⟩))):=by rw[QlB (by simp)];rfl
  have e4:(#[Value.iface t (.pointer (X ⟨B.b,B.off+(0*B.z+off),n_⟩))]++h.map a.eval).extract 1 (#[Value.iface t (.pointer (X ⟨B.b,B.off+(0*B.z+off),n_⟩))]++h.map a.eval).size=h.map a.eval:=by
   apply Array.ext';simp[YV]
  simp only[execOp,ho,resolve,Xl,hev,Xx,Xo,invoke,e3,e4,callMethod,run_program,hmeth,e2];exact OE (P:=P) (w:=w) (f:=f) (args:=_) he
 cases j with
 |zero=>simp at hz hv;subst hz;subst hv;exact e3 off _ _ (AV hlt) hr0|succ j=>
  simp only[Qj9,Yj,Yo]at hz hv;obtain⟨y',hy',rfl⟩:=hz;exact h2 j y' v hy' hv
def Gives (r:V)(outs:H_)(v:V)(h:H_):Prop:=v=r/\∀c ob,look outs c=X ob->look h c=X ob
def Qf.callM {f:FuncId}{d:Nat}{g:Bool}{M N:L_ (Nat×Nat)}{dead:L_ Nat}{hsC outs hsN:H_}{vs us:L_ V}{r r':V}(hE:JP P C o Y f vs)(hd:o.dst=X d)(hn:B_ d C)(hpg:C.pg P)
  (hnm:Ug Y M N dead outs=t_) (hnd:(M.map Prod.fst).Nodup)
  (hv:Vws Y.hp g f_ (Bx M) (λa b=>look M b=X a) vs us) (O:Rx Y.hp g f_ (Bx M) (λa b=>look M b=X a) Y.hp M hsC)
  (hc:QX P f us hsC (Gives r outs)) (hback:Rx [] f_ g [] (λc b=>look N b=X c) outs N hsN) (hr':Vw [] f_ g [] (λc b=>look N b=X c) r r'):
  Qf P C o Y ((Y.after dead hsN).put d r'):=by
 intro a w ⟨Z,hr⟩ next Q hnext;have hN:=Names.of hnm hnd;refine⟨λ_ _=>trivial,?_⟩;obtain⟨vals,hex,h1,h2⟩:=hE Z a w hr;rw[Qgi hex,Oper.uponIn_enter];refine⟨(λh=>by cases h),Qgj ((hc _ _ w _ (Ins.of_vals hr h1 h2 hN.injM hN.param hv O) ((hr.glob hpg).mono λ_ h=>.inl h)).mono ?_)⟩;rintro e w' ⟨x,v,hs',φ',rfl,⟨rfl,hso⟩,hout⟩;obtain⟨h3,h4⟩:=hr.after hN hout hso (λc s h=>by
  obtain⟨ob',e1⟩:=O.get.2 c s h;obtain⟨s',ob,e2,e3,_⟩:=O.get.1 c ob' e1;rw[h]at e2;cases e2;exact⟨ob,e3⟩) hback
 refine hnext _ _ ⟨Ry Z M N dead φ',?_⟩;rw[hd];exact h3.put (XT hn) (h4 hr')
end
end Go.Vm
