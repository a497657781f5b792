/- A part of the proof. -/
import Derived.WalkKit
import Derived.ProofKit
import Derived.MapKept
import Derived.Maps.RangeRun
import Derived.RangeFuncRecord
import Derived.RangeFuncLeaves
import Derived.LoopNIn
import Derived.OrdersIn
import Derived.TacticsIn
import Derived.Lib.Space
import Derived.Orders
set_option linter.all false
namespace Go.Vm
open Go Go.RowKit
abbrev L_:=@List
abbrev O_:=@Option
abbrev TV:=@Array.getD_eq_getD_getElem?
abbrev Qfw:=@Array.getElem?_append_left
abbrev GZ:=@Array.getElem?_eq_getElem
abbrev Ud:=@Array.getElem?_eq_some_iff
abbrev TW:=@Array.getElem?_setIfInBounds
abbrev Qhf:=@Array.getElem?_setIfInBounds_ne
abbrev TX:=@Array.getElem?_toList
abbrev Qdl:=@Array.mem_toList_iff
abbrev Qfx:=@Array.range_zero'
abbrev Qbc:=@Array.toArray_toList
abbrev SV:=@Bool.and_eq_false_iff
abbrev QL:=@Bool.and_eq_true
abbrev Zw:=@Bool.eq_iff_iff
abbrev SW:=@Bool.not_eq_false
abbrev AP:=@Bool.not_eq_false'
abbrev PS:=@Bool.not_eq_true
abbrev Wy:=@Bool.not_eq_true'
abbrev Fo:=@Bool.not_true
abbrev KA:=@Bool.or_eq_false_iff
abbrev KR:=@Bool.or_eq_true
abbrev DE:=@Int.toNat_natCast
abbrev Ox:=@List.all_cons
abbrev XE:=@List.all_eq_true
abbrev Oy:=@List.any_eq_true
abbrev De:=@List.append_assoc
abbrev Lm:=@List.append_nil
abbrev SX:=@List.drop_eq_getElem_cons
abbrev Qg9:=@List.eq_nil_of_length_eq_zero
abbrev Zx:=@List.eq_of_mem_replicate
abbrev SY:=@List.filter_append
abbrev Ah:=@List.filter_cons
abbrev Qci:=@List.flatMap_cons
abbrev Jw:=@List.forall_mem_cons
abbrev Oz:=@List.getD_eq_getElem?_getD
abbrev YL:=@List.getElem?_append_left
abbrev Jx:=@List.getElem?_append_right
abbrev Qcj:=@List.getElem?_cons_succ
abbrev Gf:=@List.getElem?_drop
abbrev QR:=@List.getElem?_eq_getElem
abbrev Xe:=@List.getElem?_eq_some_iff
abbrev Yb:=@List.getElem?_map
abbrev Ms:=@List.getElem?_set_ne
abbrev Mt:=@List.getElem?_set_self
abbrev Jy:=@List.getElem?_take
abbrev UA:=@List.getElem?_toArray
abbrev XW:=@List.getElem_mem
abbrev Qck:=@List.getElem_range
abbrev JT:=@List.length_append
abbrev DG:=@List.length_cons
abbrev Fp:=@List.length_drop
abbrev Mu:=@List.length_eq_zero_iff
abbrev Zy:=@List.length_filter_le
abbrev BW:=@List.length_map
abbrev HG:=@List.length_nil
abbrev Qcl:=@List.length_range
abbrev Zz:=@List.length_replicate
abbrev ZA:=@List.length_set
abbrev Eo:=@List.length_singleton
abbrev KS:=@List.length_take
abbrev OA:=@List.map_congr_left
abbrev GK:=@List.map_cons
abbrev OB:=@List.map_map
abbrev Ep:=@List.mem_append
abbrev SZ:=@List.mem_append_left
abbrev XQ:=@List.mem_cons
abbrev Jz:=@List.mem_cons_of_mem
abbrev YF:=@List.mem_cons_self
abbrev Fq:=@List.mem_filter
abbrev BX:=@List.mem_iff_getElem
abbrev Mv:=@List.mem_iff_getElem?
abbrev Yl:=@List.mem_map
abbrev XU:=@List.mem_of_getElem?
abbrev OC:=@List.mem_of_mem_drop
abbrev Ai:=@List.mem_of_mem_take
abbrev ZB:=@List.mem_or_eq_of_mem_set
abbrev Fs:=@List.mem_range
abbrev HH:=@List.mem_singleton
abbrev PT:=@List.nil_append
abbrev Ft:=@List.nodup_cons
abbrev Fu:=@List.pairwise_cons
abbrev PU:=@List.pairwise_map
abbrev Ta:=@List.size_toArray
abbrev AQ:=@List.take_add_one
abbrev Qcm:=@List.take_append_of_le_length
abbrev Ln:=@List.take_length
abbrev UB:=@List.take_of_length_le
abbrev Mw:=@Nat.add_assoc
abbrev Jf:=@Nat.add_mul
abbrev OD:=@Nat.add_zero
abbrev PV:=@Nat.ble_eq_true_of_le
abbrev YE:=@Nat.eq_of_beq_eq_true
abbrev JK:=@Nat.le_of_ble_eq_true
abbrev YZ:=@Nat.le_refl
abbrev Ko:=@Nat.le_succ
abbrev Kj:=@Nat.le_trans
abbrev Aj:=@Nat.lt_of_lt_of_le
abbrev DH:=@Nat.lt_or_ge
abbrev ZC:=@Nat.min_eq_left
abbrev JA:=@Nat.mul_le_mul_right
abbrev Mx:=@Nat.one_mul
abbrev Ej:=@Nat.zero_add
abbrev Cr:=@Nat.zero_mul
abbrev My:=@Option.bind_eq_some_iff
abbrev Qc:=@Option.bind_some
abbrev OR:=@Option.getD_some
abbrev XZ:=@Option.map_eq_some_iff
abbrev Rq:=@Option.map_none
abbrev DJ:=@Option.map_some
abbrev Xl:=@Result.andThen_ok
abbrev Xf:=@Sem.run_bind
abbrev Xx:=@Sem.run_pure
abbrev JZ:=@bne_eq_false_iff_eq
abbrev QJ:=@cond_false
abbrev XK:=@cond_true
abbrev QZ:=@decide_eq_false
abbrev Xo:=@decide_eq_false_iff_not
abbrev QN:=@decide_eq_true
abbrev QM:=@decide_eq_true_eq
abbrev XC:=@of_decide_eq_true
inductive V where
 | b (x:Bool)
 | i (k:IntKind) (n:Int)
 | s (x:ByteArray)
 | sl (z:Nat) (rows:List (List V))
 | sln (β z:Nat) (rows:List (List V))
 | ro (cs:List V)
 | e0
 | own (o n:Nat)
 | loc (o i d:Nat)
 | map (o:Nat)
 | agg (cs:List V)
 | tup (cs:List V)
 | clo (fn:Fn) (first caps:List V)
 | ifc (t:TypeId) (x:V)
 | lit (x:Value)
 | J
def V.one : V->Bool
 | .agg _=>false
 | .tup _=>false
 | .J=>false
 | .lit (.agg _)=>false
 | .lit (.tuple _)=>false
 | _=>true
def Er (z:Nat)(r:L_ V):Prop:=r.length=z/\∀v∈r,v.one=true
inductive Xy (I:Nat->Prop) (w:World):Value->V->Prop where
 | b (x:Bool):Xy I w (.bool x) (.b x)
 | i (k:IntKind) (n:Int):Xy I w (.int k n) (.i k n)
 | s (x:ByteArray):Xy I w (.string x) (.s x)
 | lit (x:Value):Xy I w x (.lit x)
 | J (x:Value):Xy I w x .J
 | sl0 (a:Option Addr) (cap z:Nat):Xy I w (.slice a 0 cap) (.sl z [])
 | sl (b off len cap z:Nat) (rows:List (List V)) (c:Nat->Value):I b->len=rows.length->len<=cap->(∀r∈rows,Er z r)->
   (∀j,j<len*z->w.cell? ⟨b,off+j,none⟩=some (c j))->
   (∀(i:Nat) r,rows[i]? = some r->∀(j:Nat) v,r[j]? = some v->Xy I w (c (i*z+j)) v)->Xy I w (.slice (some ⟨b,off,none⟩) len cap) (.sl z rows)
 | e0 (a:Option Addr):Xy I w (.slice a 0 0) .e0
 | sln0 (β:Nat) (a:Option Addr) (cap z:Nat):Xy I w (.slice a 0 cap) (.sln β z [])
 | sln (β b off len cap z:Nat) (rows:List (List V)) (cs:Array Value) (E:TypeId):β<=b->I b->len=rows.length->len<=cap->(∀r∈rows,Er z r)->
   w.heap[b]? = some (.cells cs E (0,0))->off+len*z<=cs.size->
   (∀(i:Nat) r,rows[i]? = some r->∀(j:Nat) v,r[j]? = some v->Xy I w (cs.getD (off+(i*z+j)) undef) v)->Xy I w (.slice (some ⟨b,off,none⟩) len cap) (.sln β z rows)
 | ro (b off:Nat) (cs:List V) (c:Nat->Value):I b->(∀v∈cs,v.one=true)->(∀j,j<cs.length->w.cell? ⟨b,off+j,none⟩=some (c j))->
   (∀(j:Nat) v,cs[j]? = some v->Xy I w (c j) v)->Xy I w (.pointer (some ⟨b,off,none⟩)) (.ro cs)
 | agg (xs:Array Value) (cs:List V):xs.size=cs.length->(∀(j:Nat) x v,xs[j]? = some x->cs[j]? = some v->Xy I w x v)->Xy I w (.agg xs) (.agg cs)
 | tup (xs:Array Value) (cs:List V):xs.size=cs.length->(∀(j:Nat) x v,xs[j]? = some x->cs[j]? = some v->Xy I w x v)->Xy I w (.tuple xs) (.tup cs)
 | ifc (t:TypeId) (x:Value) (v:V):Xy I w x v->Xy I w (.iface t x) (.ifc t v)
def Kp (w w':World)(k:Nat):Prop:=(∀i,w'.cell? ⟨k,i,none⟩=w.cell? ⟨k,i,none⟩)/\∀h E,w.heap[k]? = some (.cells h E (0,0))->w'.heap[k]? = some (.cells h E (0,0))
def Kp.of {w w':World}{k:Nat}(h:w'.heap[k]? = w.heap[k]?):Kp w w' k:=⟨λ_=>World.cell?_of_block h,λ_ _ e=>h.trans e⟩
def Xy.monoC {I I':Nat->Prop}{w w':World}(h:∀k,I k->I' k/\Kp w w' k){x:Value}{v:V}(d:Xy I w x v):Xy I' w' x v:=by
 induction d with
 | b x=>exact .b x
 | i k n=>exact .i k n
 | s x=>exact .s x
 | lit x=>exact .lit x
 | J x=>exact .J x
 | sl0 a cap z=>exact .sl0 a cap z
 | sl b off len cap z rows c hI hl hc hr y _ D=>
  exact .sl b off len cap z rows c (h b hI).1 hl hc hr (λj hj=>((h b hI).2.1 _).trans (y j hj)) D
 | e0 a=>exact .e0 a
 | sln0 β a cap z=>exact .sln0 β a cap z
 | sln β b off len cap z rows cs E hβ hI hl hc hr y hsz _ D=>
  exact .sln β b off len cap z rows cs E hβ (h b hI).1 hl hc hr ((h b hI).2.2 _ _ y) hsz D
 | ro b off cs c hI ho y _ D=>
  exact .ro b off cs c (h b hI).1 ho (λj hj=>((h b hI).2.1 _).trans (y j hj)) D
 | agg xs cs hs _ D=>exact .agg xs cs hs D
 | tup xs cs hs _ D=>exact .tup xs cs hs D
 | ifc t x v _ D=>exact .ifc t x v D
def Xy.lo1 {I:Nat->Prop}{w:World}{x:Value}{β z:Nat}{rows:L_ (L_ V)}(d:Xy I w x (.sln β z rows)):Xy I w x (.sl z rows):=by
 cases d with
 | sln0=>exact .sl0 _ _ _
 | sln _ b off y cap _ _ D E _ hI hl hc hr h hsz hd=>
  refine .sl b off y cap z rows (λj=>D.getD (off+j) undef) hI hl hc hr (λj hj=>?_) hd
  have:off+j<D.size:=by omega
  simp[World.cell?,h,Array.getD,this]
def Xy.mono {I I':Nat->Prop}{w w':World}(h:∀k,I k->I' k/\w'.heap[k]? = w.heap[k]?){x:Value}{v:V}(d:Xy I w x v):Xy I' w' x v:=
 d.monoC (λk y=>⟨(h k y).1,Kp.of (h k y).2⟩)
structure Xa where
 b:Nat
 cap:Nat
 z:Nat
 more:List Nat:=[]
 off:Nat:=0
def Xa.has (B:Xa)(k:Nat):Prop:=k=B.b\/k∈B.more
def Xa.self (B:Xa):B.has B.b:=.inl rfl
inductive QO (φ:Nat->Option Xa) (I:Nat->Prop) (w:World):Value->V->Prop where
 | dat {x:Value} {v:V}:Xy I w x v->QO φ I w x v
 | own0 (o:Nat):QO φ I w (.slice none 0 0) (.own o 0)
 | own (o n:Nat) (B:Xa):φ o=some B->n<=B.cap->QO φ I w (.slice (some ⟨B.b,B.off,none⟩) n B.cap) (.own o n)
 | loc (o i d:Nat) (B:Xa):φ o=some B->QO φ I w (.pointer (some ⟨B.b,B.off+(i*B.z+d),none⟩)) (.loc o i d)
 | map (o:Nat) (B:Xa):φ o=some B->QO φ I w (.map (some B.b)) (.map o)
 | agg (xs:Array Value) (cs:List V):xs.size=cs.length->(∀(j:Nat) x v,xs[j]? = some x->cs[j]? = some v->QO φ I w x v)->QO φ I w (.agg xs) (.agg cs)
 | tup (xs:Array Value) (cs:List V):xs.size=cs.length->(∀(j:Nat) x v,xs[j]? = some x->cs[j]? = some v->QO φ I w x v)->QO φ I w (.tuple xs) (.tup cs)
 | ifc (t:TypeId) (x:Value) (v:V):QO φ I w x v->QO φ I w (.iface t x) (.ifc t v)
 | clo (fn:Fn) (xs ys:Array Value) (vs us:List V):xs.size=vs.length->ys.size=us.length->(∀(j:Nat) x v,xs[j]? = some x->vs[j]? = some v->QO φ I w x v)->
   (∀(j:Nat) x v,ys[j]? = some x->us[j]? = some v->QO φ I w x v)->QO φ I w (.func fn xs ys) (.clo fn vs us)
def QO.monoC {φ φ':Nat->O_ Xa}{I I':Nat->Prop}{w w':World}(hφ:∀o B,φ o=some B->φ' o=some B)(h:∀k,I k->I' k/\Kp w w' k){x:Value}{v:V}
  (d:QO φ I w x v):QO φ' I' w' x v:=by
 induction d with
 | dat d=>exact .dat (d.monoC h)
 | own0 o=>exact .own0 o
 | own o n B y hn=>exact .own o n B (hφ o B y) hn
 | loc o i d B y=>exact .loc o i d B (hφ o B y)
 | map o B y=>exact .map o B (hφ o B y)
 | agg xs cs hs _ D=>exact .agg xs cs hs D
 | tup xs cs hs _ D=>exact .tup xs cs hs D
 | ifc t x v _ D=>exact .ifc t x v D
 | clo fn xs ys vs us h1 h2 _ _ ih1 ih2=>exact .clo fn xs ys vs us h1 h2 ih1 ih2
def QO.mono {φ φ':Nat->O_ Xa}{I I':Nat->Prop}{w w':World}(D:∀o B,φ o=some B->φ' o=some B)(h:∀k,I k->I' k/\w'.heap[k]? = w.heap[k]?){x:Value}{v:V}
  (d:QO φ I w x v):QO φ' I' w' x v:=
 d.monoC D (λk y=>⟨(h k y).1,Kp.of (h k y).2⟩)
section inv
variable {φ:Nat->O_ Xa}{I:Nat->Prop}{w:World}{x:Value}
def QO.b_inv {y:Bool}(h:QO φ I w x (.b y)):x=.bool y:=by
 cases h with
 | dat h=>cases h;rfl
def QO.i_inv {k:IntKind}{n:Int}(h:QO φ I w x (.i k n)):x=.int k n:=by
 cases h with
 | dat h=>cases h;rfl
def QO.s_inv {y:ByteArray}(h:QO φ I w x (.s y)):x=.string y:=by
 cases h with
 | dat h=>cases h;rfl
def QO.lit_inv {y:Value}(h:QO φ I w x (.lit y)):x=y:=by
 cases h with
 | dat h=>cases h;rfl
def QO.agg_inv {y:L_ V}(h:QO φ I w x (.agg y)):∃xs:Array Value,x=.agg xs/\xs.size=y.length/\∀(j:Nat) x v,xs[j]? = some x->y[j]? = some v->QO φ I w x v:=by
 cases h with
 | dat h=>cases h with | agg xs _ hs D=>exact⟨xs,rfl,hs,λj x v h1 h2=>.dat (D j x v h1 h2)⟩
 | agg xs _ hs D=>exact⟨xs,rfl,hs,D⟩
def QO.tup_inv {y:L_ V}(h:QO φ I w x (.tup y)):∃xs:Array Value,x=.tuple xs/\xs.size=y.length/\∀(j:Nat) x v,xs[j]? = some x->y[j]? = some v->QO φ I w x v:=by
 cases h with
 | dat h=>cases h with | tup xs _ hs D=>exact⟨xs,rfl,hs,λj x v h1 h2=>.dat (D j x v h1 h2)⟩
 | tup xs _ hs D=>exact⟨xs,rfl,hs,D⟩
def QO.ro_inv {y:L_ V}(h:QO φ I w x (.ro y)):∃b off,x=.pointer (some ⟨b,off,none⟩)/\I b/\(∀v∈y,v.one=true)/\∃c:Nat->Value,(∀j,j<y.length->w.cell? ⟨b,off+j,none⟩=some (c j))/\∀(j:Nat) v,y[j]? = some v->Xy I w (c j) v:=by
 cases h with
 | dat h=>cases h with | ro b off _ c D ho hc hr=>exact⟨b,off,rfl,D,ho,c,hc,hr⟩
def QO.loc_inv {o i d:Nat}(h:QO φ I w x (.loc o i d)):∃B,φ o=some B/\x=.pointer (some ⟨B.b,B.off+(i*B.z+d),none⟩):=by
 cases h with
 | dat h=>cases h
 | loc _ _ _ B y=>exact⟨B,y,rfl⟩
def QO.map_inv {o:Nat}(h:QO φ I w x (.map o)):∃B,φ o=some B/\x=.map (some B.b):=by
 cases h with
 | dat h=>cases h
 | map _ B y=>exact⟨B,y,rfl⟩
def QO.own_inv {o n:Nat}(h:QO φ I w x (.own o n)):(x=.slice none 0 0/\n=0)\/∃B,φ o=some B/\n<=B.cap/\x=.slice (some ⟨B.b,B.off,none⟩) n B.cap:=by
 cases h with
 | dat h=>cases h
 | own0=>exact .inl ⟨rfl,rfl⟩
 | own _ _ B y D=>exact .inr ⟨B,y,D,rfl⟩
def QO.sl_inv {z:Nat}{rows:L_ (L_ V)}(h:QO φ I w x (.sl z rows)):
  (∃a cap,x=.slice a 0 cap/\rows=[])\/
  ∃b off cap,x=.slice (some ⟨b,off,none⟩) rows.length cap/\I b/\rows.length<=cap/\(∀r∈rows,Er z r)/\
   ∃c:Nat->Value,(∀j,j<rows.length*z->w.cell? ⟨b,off+j,none⟩=some (c j))/\∀(i:Nat) r,rows[i]? = some r->∀(j:Nat) v,r[j]? = some v->Xy I w (c (i*z+j)) v:=by
 cases h with
 | dat h=>cases h with
  | sl0 a cap z=>exact .inl ⟨a,cap,rfl,rfl⟩
  | sl b off len cap z rows c D hl hc hr y hd=>subst hl;exact .inr ⟨b,off,cap,rfl,D,hc,hr,c,y,hd⟩
def QO.ifc_inv {t:TypeId}{v:V}(h:QO φ I w x (.ifc t v)):∃y,x=.iface t y/\QO φ I w y v:=by
 cases h with
 | dat h=>cases h with | ifc _ y _ h=>exact⟨y,rfl,.dat h⟩
 | ifc _ y _ h=>exact⟨y,rfl,h⟩
def QO.clo_inv {fn:Fn}{vs us:L_ V}(h:QO φ I w x (.clo fn vs us)):∃xs ys:Array Value,x=.func fn xs ys/\xs.size=vs.length/\ys.size=us.length/\
  (∀(j:Nat) x v,xs[j]? = some x->vs[j]? = some v->QO φ I w x v)/\∀(j:Nat) x v,ys[j]? = some x->us[j]? = some v->QO φ I w x v:=by
 cases h with
 | dat h=>cases h
 | clo _ xs ys _ _ y D h3 h4=>exact⟨xs,ys,rfl,y,D,h3,h4⟩
end inv
structure AR where
 fn:FuncId
 ps:Array Tmp
 assign:Code
 body:Code
inductive Ob where
 | var (cs:List V)
 | lp (l:Nat) (K:AR) (cs:List V) (q:Nat)
 | arr (z:Nat) (rs:List (List V))
 | map (es:List (V×V))
 | grp (z:Nat) (es:List (V×List (List V))) (out:Option V)
 | mapX (bm clock:Nat) (L:List (Nat×(V×V))) (l:List (V×V))
 | itr (bm since:Nat) (seen:Array Nat) (cur:Option Nat)
 | itr0
 | tbl (A:Nat->Nat) (z:Nat) (rs:List (List V))
 | nst (x:Value) (v:V)
 | scr (D:Nat->Nat->Prop) (H:Nat->Nat->Value->Prop)
def Ob.Nil : Ob->Prop
 | .arr _ rs=>rs=[]
 | .tbl _ _ rs=>rs=[]
 | .nst x v=>∀w,Xy (λ_=>False) w x v
 | .scr D H=>(∀b i,¬D b i)/\∀b i y,¬H b i y
 | _=>False
def Ue (I:Nat->Prop)(w:World)(B:Xa)(A:Nat->Nat)(z:Nat)(rs:L_ (L_ V)):Prop:=
 B.b::B.more=(List.range rs.length).map A/\(B.b::B.more).Nodup/\(∀r∈rs,Er z r)/\
  ∀(i:Nat) r,rs[i]? = some r->∃h E,w.heap[A i]? = some (.cells h E (0,0))/\h.size=z/\∀(j:Nat) v,r[j]? = some v->∃x,h[j]? = some x/\Xy I w x v
def Ue.has {I:Nat->Prop}{w:World}{B:Xa}{A:Nat->Nat}{z:Nat}{rs:L_ (L_ V)}(d:Ue I w B A z rs)(k:Nat):B.has k↔∃i,i<rs.length/\A i=k:=by
 have:B.has k↔k∈B.b::B.more:=by unfold Xa.has;exact XQ.symm
 rw[this,d.1];simp
def Ue.monoC {I I':Nat->Prop}{w w':World}(h:∀k,I k->I' k/\Kp w w' k){B:Xa}(hB:∀k,B.has k->w'.heap[k]? = w.heap[k]?){A:Nat->Nat}{z:Nat}{rs:L_ (L_ V)}(d:Ue I w B A z rs):Ue I' w' B A z rs:=by
 refine⟨d.1,d.2.1,d.2.2.1,λi r y=>?_⟩
 obtain⟨D,E,h1,h2,h3⟩:=d.2.2.2 i r y
 exact⟨D,E,(hB _ ((d.has _).2 ⟨i,(Xe.1 y).1,rfl⟩)).trans h1,h2,λj v hj=>let ⟨x,hx,hd⟩:=h3 j v hj;⟨x,hx,hd.monoC h⟩⟩
def Ue.mono {I I':Nat->Prop}{w w':World}(h:∀k,I k->I' k/\w'.heap[k]? = w.heap[k]?){B:Xa}(D:∀k,B.has k->w'.heap[k]? = w.heap[k]?){A:Nat->Nat}{z:Nat}{rs:L_ (L_ V)}(d:Ue I w B A z rs):Ue I' w' B A z rs:=
 Ue.monoC (λk y=>⟨(h k y).1,Kp.of (h k y).2⟩) D d
def Ql9 (φ:Nat->O_ Xa)(I:Nat->Prop)(w:World)(B:Xa)(vs:L_ V):Prop:=
 ∃h E,w.heap[B.b]? = some (.cells h E (0,0))/\h.size=vs.length/\B.off=0/\∀(j:Nat) x v,h[j]? = some x->vs[j]? = some v->QO φ I w x v
def Yn (I:Nat->Prop)(w:World)(B:Xa)(z:Nat)(rs:L_ (L_ V)):Prop:=
 B.z=z/\rs.length<=B.cap/\(∀r∈rs,Er z r)/\∃h E,w.heap[B.b]? = some (.cells h E (0,0))/\B.off+B.cap*z<=h.size/\
  ∀(i:Nat) r,rs[i]? = some r->∀(j:Nat) v,r[j]? = some v->∃x,h[B.off+(i*z+j)]? = some x/\Xy I w x v
def Yn.mk0 {I:Nat->Prop}{w:World}{B:Xa}{z:Nat}{rs:L_ (L_ V)}(hz:B.z=z)(D:B.off=0)(hl:rs.length<=B.cap)(y:∀r∈rs,Er z r)(h:Array Value)(E:TypeId)
  (h1:w.heap[B.b]? = some (.cells h E (0,0))) (h2:h.size=B.cap*z) (h3:∀(i:Nat) r,rs[i]? = some r->∀(j:Nat) v,r[j]? = some v->∃x,h[i*z+j]? = some x/\Xy I w x v):Yn I w B z rs:=
 ⟨hz,hl,y,h,E,h1,by rw[D,Ej];exact Nat.le_of_eq h2.symm,λi r hi j v hj=>by rw[D,Ej];exact h3 i r hi j v hj⟩
def Df (I:Nat->Prop)(w:World)(B:Xa)(l:L_ (V×V)):Prop:=
 ∃es h,w.heap[B.b]? = some (.map es h)/\MapKept.Stamped es h/\(l.map Prod.fst).Nodup/\es.size=l.length/\
  (∀x∈es.toList,∃p∈l,Xy I w x.key p.1/\Xy I w x.val p.2)/\∀p∈l,∃x∈es.toList,Xy I w x.key p.1/\Xy I w x.val p.2
def Gu (I:Nat->Prop)(w:World)(B:Xa)(z:Nat)(l:L_ (V×L_ (L_ V)))(out:O_ V):Prop:=
 ∃es h,w.heap[B.b]? = some (.map es h)/\MapKept.Stamped es h/\(l.map Prod.fst).Nodup/\es.size=l.length/\
  ∃y:L_ (O_ Xa),y.length=l.length/\B.more=y.filterMap (Option.map Xa.b)/\(B.b::B.more).Nodup/\
   (∀(i:Nat) (x:MapEntry) E,es[i]? = some x->y[i]? = some E->∃p∈l,Xy I w x.key p.1/\((∃F,E=some F/\F.more=[]/\out≠some p.1/\Yn I w F z p.2/\x.val=.slice (some ⟨F.b,F.off,none⟩) p.2.length F.cap)\/(E=none/\out=some p.1)))/\
   (∀p∈l,∃(i:Nat) (x:MapEntry),es[i]? = some x/\Xy I w x.key p.1)
def UY (I:Nat->Prop)(w:World)(B:Xa)(y h:Nat)(L:L_ (Nat×(V×V)))(l:L_ (V×V)):Prop:=
 B.b=y/\∃M:L_ (MapEntry×(V×V)),M.map (λq=>(q.1.born,q.2))=L/\w.heap[B.b]? = some (.map (M.map Prod.fst).toArray h)/\MapKept.Stamped (M.map Prod.fst).toArray h/\(l.map Prod.fst).Nodup/\(M.map Prod.snd).Perm l/\
  ∀q∈M,Xy I w q.1.key q.2.1/\Xy I w q.1.val q.2.2
def Rr (w:World)(B:Xa)(bm h:Nat)(y:Array Nat)(D:O_ Nat):Prop:=
 w.heap[B.b]? = some (.mapIter (some bm) h y h)/\B.off=0/\∀x,D=some x->∃s0:Array Nat,y=s0.push x
def VM : Nat->O_ Code
 | 0=>none
 | 1=>none
 | 2=>some .ret
 | k+3=>some (.exit k)
def lst : Nat->LoopState
 | 0=>.ready
 | 1=>.busy
 | _=>.done
def QlD (φ:Nat->O_ Xa)(I:Nat->Prop)(w:World)(B:Xa)(l:Nat)(K:AR)(vs:L_ V)(q:Nat):Prop:=
 ∃tmps D,B.b=l/\B.more=[]/\w.heap[l]? = some (.loop { state:=lst q,pending:=VM q,fn:=K.fn,tmps,params:=K.ps,assign:=K.assign,body:=K.body,defers:=D })/\tmps.size=vs.length/\
  ∀(j:Nat) x v,tmps[j]? = some x->vs[j]? = some v->QO φ I w x v
def Ru (w:World)(B:Xa)(x:Value)(v:V):Prop:=Xy B.has w x v/\∀k,B.has k->∃h E,w.heap[k]? = some (.cells h E (0,0))
def Ru.mono {w w':World}{B:Xa}(D:∀k,B.has k->w'.heap[k]? = w.heap[k]?){x:Value}{v:V}(d:Ru w B x v):Ru w' B x v:=
 ⟨d.1.mono λk y=>⟨y,D k y⟩,λk y=>let ⟨cs,E,h⟩:=d.2 k y;⟨cs,E,(D k y).trans h⟩⟩
def Rv (w:World)(B:Xa)(D:Nat->Nat->Prop)(H:Nat->Nat->Value->Prop):Prop:=
 (∀b i,D b i->B.has b/\∃h E n,w.heap[b]? = some (.cells h E (0,0))/\h[i]? = some (.int .i64 n))/\∀b i y,H b i y->B.has b/\¬D b i/\w.cell? ⟨b,i,none⟩=some y
def Rv.mono {w w':World}{B:Xa}(hB:∀k,B.has k->w'.heap[k]? = w.heap[k]?){D:Nat->Nat->Prop}{H:Nat->Nat->Value->Prop}(d:Rv w B D H):Rv w' B D H:=
 ⟨λb i h=>let ⟨h1,cs,E,n,h2,h3⟩:=d.1 b i h;⟨h1,cs,E,n,(hB b h1).trans h2,h3⟩,λb i y h=>let ⟨h1,h2,h3⟩:=d.2 b i y h;⟨h1,h2,(World.cell?_of_block (hB b h1)).trans h3⟩⟩
def JL (φ:Nat->O_ Xa)(I:Nat->Prop)(w:World)(B:Xa):Ob->Prop
 | .var vs=>Ql9 φ I w B vs
 | .lp l K vs q=>QlD φ I w B l K vs q
 | .arr z rs=>Yn I w B z rs
 | .map l=>Df I w B l
 | .grp z l out=>Gu I w B z l out
 | .mapX bm h L l=>UY I w B bm h L l
 | .itr bm y seen cur=>Rr w B bm y seen cur
 | .itr0=>∃s c,w.heap[B.b]? = some (.mapIter none 0 s c)/\B.off=0
 | .tbl A z rs=>Ue I w B A z rs
 | .nst x v=>Ru w B x v
 | .scr D H=>Rv w B D H
def Yn.monoC {I I':Nat->Prop}{w w':World}(h:∀k,I k->I' k/\Kp w w' k){B:Xa}(hB:w'.heap[B.b]? = w.heap[B.b]?){z:Nat}{rs:L_ (L_ V)}(d:Yn I w B z rs):
  Yn I' w' B z rs:=by
 obtain⟨D,h2,h3,y,E,h4,h5,h6⟩:=d
 exact⟨D,h2,h3,y,E,hB.trans h4,h5,λi r hi j v hj=>let ⟨x,hx,hr⟩:=h6 i r hi j v hj;⟨x,hx,hr.monoC h⟩⟩
def Yn.mono {I I':Nat->Prop}{w w':World}(h:∀k,I k->I' k/\w'.heap[k]? = w.heap[k]?){B:Xa}(D:w'.heap[B.b]? = w.heap[B.b]?){z:Nat}{rs:L_ (L_ V)}(d:Yn I w B z rs):
  Yn I' w' B z rs:=
 Yn.monoC (λk y=>⟨(h k y).1,Kp.of (h k y).2⟩) D d
def Df.monoC {I I':Nat->Prop}{w w':World}(h:∀k,I k->I' k/\Kp w w' k){B:Xa}(hB:w'.heap[B.b]? = w.heap[B.b]?){l:L_ (V×V)}(d:Df I w B l):Df I' w' B l:=by
 obtain⟨es,y,h1,h2,h3,h4,h5,h6⟩:=d
 exact⟨es,y,hB.trans h1,h2,h3,h4,λx D=>let ⟨p,hp,a,b⟩:=h5 x D;⟨p,hp,a.monoC h,b.monoC h⟩,λp hp=>let ⟨x,D,a,b⟩:=h6 p hp;⟨x,D,a.monoC h,b.monoC h⟩⟩
def Df.mono {I I':Nat->Prop}{w w':World}(h:∀k,I k->I' k/\w'.heap[k]? = w.heap[k]?){B:Xa}(D:w'.heap[B.b]? = w.heap[B.b]?){l:L_ (V×V)}(d:Df I w B l):Df I' w' B l:=
 Df.monoC (λk y=>⟨(h k y).1,Kp.of (h k y).2⟩) D d
def QkD {y:L_ (O_ Xa)}{i:Nat}{F:Xa}(h:y[i]? = some (some F)):F.b∈y.filterMap (Option.map Xa.b):=List.mem_filterMap.2 ⟨some F,XU h,rfl⟩
def Gu.monoC {I I':Nat->Prop}{w w':World}(h:∀k,I k->I' k/\Kp w w' k){B:Xa}(hB:∀k,B.has k->w'.heap[k]? = w.heap[k]?){z:Nat}{l:L_ (V×L_ (L_ V))}{out:O_ V}(d:Gu I w B z l out):Gu I' w' B z l out:=by
 obtain⟨es,y,h1,h2,h3,h4,bs,h5,h6,h7,h8,h9⟩:=d
 refine⟨es,y,(hB _ B.self).trans h1,h2,h3,h4,bs,h5,h6,h7,λi x E hx hE=>?_,λp hp=>let ⟨i,x,a,b⟩:=h9 p hp;⟨i,x,a,b.monoC h⟩⟩
 obtain⟨p,hp,a1,a2⟩:=h8 i x E hx hE
 refine⟨p,hp,a1.monoC h,a2.imp (λ⟨F,D,c1,c2,c3,c4⟩=>⟨F,D,c1,c2,c3.monoC h (hB _ (.inr ?_)),c4⟩) id⟩
 subst D
 rw[h6];exact QkD hE
def Gu.mono {I I':Nat->Prop}{w w':World}(h:∀k,I k->I' k/\w'.heap[k]? = w.heap[k]?){B:Xa}(D:∀k,B.has k->w'.heap[k]? = w.heap[k]?){z:Nat}{l:L_ (V×L_ (L_ V))}{out:O_ V}(d:Gu I w B z l out):Gu I' w' B z l out:=
 Gu.monoC (λk y=>⟨(h k y).1,Kp.of (h k y).2⟩) D d
def UY.monoC {I I':Nat->Prop}{w w':World}(h:∀k,I k->I' k/\Kp w w' k){B:Xa}(hB:w'.heap[B.b]? = w.heap[B.b]?){D y:Nat}{L:L_ (Nat×(V×V))}{l:L_ (V×V)}(d:UY I w B D y L l):UY I' w' B D y L l:=by
 obtain⟨h1,M,h0,h2,h3,h4,h5,h6⟩:=d
 exact⟨h1,M,h0,hB.trans h2,h3,h4,h5,λq hq=>⟨(h6 q hq).1.monoC h,(h6 q hq).2.monoC h⟩⟩
def UY.mono {I I':Nat->Prop}{w w':World}(h:∀k,I k->I' k/\w'.heap[k]? = w.heap[k]?){B:Xa}(hB:w'.heap[B.b]? = w.heap[B.b]?){D y:Nat}{L:L_ (Nat×(V×V))}{l:L_ (V×V)}(d:UY I w B D y L l):UY I' w' B D y L l:=
 UY.monoC (λk hk=>⟨(h k hk).1,Kp.of (h k hk).2⟩) hB d
def Rr.mono {w w':World}{B:Xa}(hB:w'.heap[B.b]? = w.heap[B.b]?){bm h:Nat}{y:Array Nat}{D:O_ Nat}(d:Rr w B bm h y D):Rr w' B bm h y D:=
 ⟨hB.trans d.1,d.2⟩
def JL.monoC {φ φ':Nat->O_ Xa}{I I':Nat->Prop}{w w':World}(hφ:∀o B,φ o=some B->φ' o=some B)(h:∀k,I k->I' k/\Kp w w' k)
  {B:Xa} (y:∀k,B.has k->w'.heap[k]? = w.heap[k]?) {ob:Ob} (d:JL φ I w B ob):JL φ' I' w' B ob:=by
 cases ob with
 | var vs=>
  obtain⟨cs,E,h1,h2,h0,h3⟩:=d
  exact⟨cs,E,(y _ B.self).trans h1,h2,h0,λj x v hx hv=>(h3 j x v hx hv).monoC hφ h⟩
 | lp l K vs q=>
  obtain⟨tmps,D,rfl,h1,h2,h3,h4⟩:=d
  exact⟨tmps,D,rfl,h1,(y _ B.self).trans h2,h3,λj x v hx hv=>(h4 j x v hx hv).monoC hφ h⟩
 | arr z rs=>exact Yn.monoC h (y _ B.self) d
 | map l=>exact Df.monoC h (y _ B.self) d
 | grp z l lk=>exact Gu.monoC h y d
 | mapX bm clock L l=>exact UY.monoC h (y _ B.self) d
 | itr bm since seen cur=>exact Rr.mono (y _ B.self) d
 | itr0=>obtain⟨s,c,h1⟩:=d;exact⟨s,c,(y _ B.self).trans h1.1,h1.2⟩
 | tbl A z rs=>exact Ue.monoC h y d
 | nst x v=>exact Ru.mono y d
 | scr D H=>exact Rv.mono y d
def JL.mono {φ φ':Nat->O_ Xa}{I I':Nat->Prop}{w w':World}(hφ:∀o B,φ o=some B->φ' o=some B)(h:∀k,I k->I' k/\w'.heap[k]? = w.heap[k]?)
  {B:Xa} (D:∀k,B.has k->w'.heap[k]? = w.heap[k]?) {ob:Ob} (d:JL φ I w B ob):JL φ' I' w' B ob:=
 JL.monoC hφ (λk y=>⟨(h k y).1,Kp.of (h k y).2⟩) D d
def look {α:Type}:L_ (Nat×α)->Nat->O_ α
 | [],_=>none
 | (k,v)::r,t=>bif Nat.beq k t then some v else look r t
def QC {α:Type}(k:Nat)(v:α)(r:L_ (Nat×α)):look ((k,v)::r) k=some v:=by simp[look]
def QA {α:Type}{k t:Nat}(v:α)(r:L_ (Nat×α))(h:k≠t):look ((k,v)::r) t=look r t:=by
 have:Nat.beq k t=false:=by
  cases y:Nat.beq k t with
  | false=>rfl
  | true=>exact absurd (YE y) h
 simp[look,this]
abbrev H_:=L_ (Nat×Ob)
abbrev S_:=L_ (Nat×V)
structure St where
 fr:List (Nat×V)
 hp:List (Nat×Ob)
def St.put (σ:St)(t:Nat)(v:V):St:={ fr:=(t,v)::σ.fr,hp:=σ.hp }
def St.set (σ:St)(o:Nat)(ob:Ob):St:={ fr:=σ.fr,hp:=(o,ob)::σ.hp }
def UZ : Value->V
 | .bool x=>.b x
 | .int k n=>.i k n
 | .string x=>.s x
 | x=>.lit x
def St.opd (σ:St):Operand->O_ V
 | .tmp t=>look σ.fr t
 | .const v=>some (UZ v)
 | .func f=>some (.clo (.func f) [] [])
 | .global g=>some (.lit (.pointer (some ⟨g,0,none⟩)))
structure XA where
 w0:World
 S:Nat->Prop
 W:Nat->Prop
 n:Nat
 φ0:Nat->Option Xa
 small:n<=617
 rnd:Option Nat:=none
abbrev B_ (d:Nat) (C:XA):Prop:=Nat.ble (d+1) C.n=true
def XA.F (C:XA):Fence:={ fn:=λ_=>True,depth:=none,alive:=false,round:=C.rnd }
def Qha (b:Nat)(I:Nat->Prop)(w:World)(ds:L_ Deferred):Prop:=∃h:L_ Nat,ds=h.map (λD=>{ target:=.collected D,args:=#[] })/\h.Nodup/\∀D∈h,b<=D/\I D/\w.heap[D]? = some (.deferred (some []))
def Qha.mono {b:Nat}{I I':Nat->Prop}{w w':World}(h:∀k,I k->I' k/\w'.heap[k]? = w.heap[k]?){ds:L_ Deferred}(m:Qha b I w ds):Qha b I' w' ds:=by
 obtain⟨y,h1,h2,h3⟩:=m
 exact⟨y,h1,h2,λD hD=>let ⟨a1,a2,a3⟩:=h3 D hD;⟨a1,(h D a2).1,(h D a2).2.trans a3⟩⟩
def Xj (C:XA)(φ:Nat->O_ Xa)(w:World)(k:Nat):Prop:=
 k<w.heap.size/\(k<C.w0.heap.size->C.S k)/\∀o B,φ o=some B->¬B.has k
def Tb (φ0 φ:Nat->O_ Xa)(hp:H_):Prop:=(∀o B,617<=o->φ o=some B->φ0 o=some B)/\∀o ob B,617<=o->look hp o=some ob->φ0 o=some B->φ o=some B
def Tb.sub {φ0 φ:Nat->O_ Xa}{hp y:H_}(h:Tb φ0 φ hp)(hs:∀o ob,look y o=some ob->∃ob',look hp o=some ob'):Tb φ0 φ y:=
 ⟨h.1,λo ob B D h2 h3=>let ⟨ob',h4⟩:=hs o ob h2;h.2 o ob' B D h4 h3⟩
structure RR (C:XA) (φ:Nat->Option Xa) (σ:St) (a:Act) (w:World):Prop where
 os:w.os=C.w0.os
 tape:w.tape=C.w0.tape
 output:w.output=C.w0.output
 size:C.w0.heap.size<=w.heap.size
 kept:∀k,k<C.w0.heap.size->¬C.W k->w.heap[k]? = C.w0.heap[k]?
 inj:∀o o' B B' k,φ o=some B->φ o'=some B'->B.has k->B'.has k->o=o'
 dom:∀o B,φ o=some B->∃ob,look σ.hp o=some ob
 lt:∀o B k,φ o=some B->B.has k->k<w.heap.size/\(k<C.w0.heap.size->C.W k)
 new:∀o B k,φ o=some B->B.has k->o<615->C.w0.heap.size<=k
 stay:Tb C.φ0 φ σ.hp
 tmps:a.tmps.size=C.n
 defers:Qha C.w0.heap.size (Xj C φ w) w a.defers
 frame:∀t v,look σ.fr t=some v->∃x,a.tmps[t]? = some x/\QO φ (Xj C φ w) w x v
 heap:∀o ob,look σ.hp o=some ob->(∃B,φ o=some B/\JL φ (Xj C φ w) w B ob)\/(φ o=none/\ob.Nil)
def R (C:XA)(σ:St)(a:Act)(w:World):Prop:=∃φ,RR C φ σ a w
section
variable {C:XA}{φ:Nat->O_ Xa}{σ:St}{a:Act}{w:World}
def RR.opd (h:RR C φ σ a w){x:Operand}{v:V}(y:σ.opd x=some v):QO φ (Xj C φ w) w (a.eval x) v:=by
 cases x with
 | tmp t=>
  obtain⟨x,hx,D⟩:=h.frame t v y
  simpa[Act.eval,TV,hx] using D
 | const c=>
  simp only[St.opd,Option.some.injEq]at y;subst y
  cases c<;>first | exact .dat (.b _) | exact .dat (.i _ _) | exact .dat (.s _) | exact .dat (.lit _)
 | global g=>simp only[St.opd,Option.some.injEq]at y;subst y;exact .dat (.lit _)
 | func f=>simp only[St.opd,Option.some.injEq]at y;subst y;exact .clo (.func f) #[] #[] [] [] rfl rfl (λj x v h=>by simp at h) (λj x v h=>by simp at h)
def RR.put (h:RR C φ σ a w){t:Nat}{x:Value}{v:V}(ht:t<C.n)(hx:QO φ (Xj C φ w) w x v):RR C φ (σ.put t v) (a.put (some t) x) w:=by
 refine⟨h.os,h.tape,h.output,h.size,h.kept,h.inj,h.dom,h.lt,h.new,h.stay,by simpa[Act.put] using h.tmps,h.defers,?_,h.heap⟩
 intro t' v' D
 by_cases ht':t=t'
 ·subst ht'
  rw[St.put,QC]at D;cases D
  exact⟨x,by simp[Act.put,TW,h.tmps,ht],hx⟩
 rw[St.put,QA _ _ ht']at D
 obtain⟨y,hy,hr⟩:=h.frame t' v' D
 exact⟨y,by simpa[Act.put,TW,ht'] using hy,hr⟩
def RR.le (h:RR C φ σ a w){fr:S_}(y:∀t v,look fr t=some v->look σ.fr t=some v):RR C φ ⟨fr,σ.hp⟩ a w:=
 ⟨h.os,h.tape,h.output,h.size,h.kept,h.inj,h.dom,h.lt,h.new,h.stay,h.tmps,h.defers,λt v D=>h.frame t v (y t v D),h.heap⟩
def RR.step (h:RR C φ σ a w){w':World}(ho:w'.os=w.os)(ht:w'.tape=w.tape)(hu:w'.output=w.output)(hs:w.heap.size<=w'.heap.size)
  (D:∀k,k<w.heap.size->w'.heap[k]? = w.heap[k]?):RR C φ σ a w':=by
 have hI:∀k,Xj C φ w k->Xj C φ w' k/\w'.heap[k]? = w.heap[k]? := λk y=>⟨⟨Aj y.1 hs,y.2⟩,D k y.1⟩
 refine⟨ho.trans h.os,ht.trans h.tape,hu.trans h.output,Kj h.size hs,λk h1 h2=>(D k (Aj h1 h.size)).trans (h.kept k h1 h2),h.inj,h.dom,
  λo B k hB D=>⟨Aj (h.lt o B k hB D).1 hs,(h.lt o B k hB D).2⟩,h.new,h.stay,h.tmps,h.defers.mono hI,?_,?_⟩
 ·intro t v hv
  obtain⟨x,hx,hr⟩:=h.frame t v hv
  exact⟨x,hx,hr.mono (λ_ _ h=>h) hI⟩
 intro o ob hob
 rcases h.heap o ob hob with⟨B,hB,hr⟩|hn
 ·exact .inl ⟨B,hB,hr.mono (λ_ _ h=>h) hI λk y=>D _ (h.lt o B k hB y).1⟩
 exact .inr hn
end
inductive Rw {σ ρ:Type} (body:σ->Option (σ⊕ρ)):σ->ρ->Prop where
 | done {s:σ} {r:ρ}:body s=some (.inr r)->Rw body s r
 | next {s s':σ} {r:ρ}:body s=some (.inl s')->Rw body s' r->Rw body s r
def Rw.det {σ ρ:Type}{body:σ->O_ (σ⊕ρ)}{s:σ}{r r':ρ}(h:Rw body s r)(D:Rw body s r'):r=r':=by
 induction h with
 | done h=>cases D with
  | done y=>rw[h]at y;cases y;rfl
  | next y _=>rw[h]at y;cases y
 | next h _ ih=>cases D with
  | done y=>rw[h]at y;cases y
  | next y h3=>rw[h]at y;cases y;exact ih h3
def loopN {σ ρ:Type}(body:σ->O_ (σ⊕ρ)):Nat->σ->O_ ρ
 | 0,_=>none
 | n+1,s=>match body s with
  | none=>none
  | some (.inl h)=>loopN body n h
  | some (.inr r)=>some r
def QiO {σ ρ:Type}{body:σ->O_ (σ⊕ρ)}{r:ρ}:∀(n:Nat) (s:σ),loopN body n s=some r->Rw body s r:=by
 intro n
 induction n with
 | zero=>intro s h;cases h
 | succ n D=>
  intro s h
  rw[loopN]at h
  split at h
  ·cases h
  ·rename_i s' y;exact .next y (D s' h)
  rename_i r' y;cases h;exact .done y
open Classical in
noncomputable def QQ {σ ρ:Type}(body:σ->O_ (σ⊕ρ))(s:σ):O_ ρ:=match loopN body 5000 s with
 | some r=>some r
 | none=>if h:∃r,Rw body s r then some h.choose else none
def Tc {σ ρ:Type}{body:σ->O_ (σ⊕ρ)}{s:σ}{r:ρ}:QQ body s=some r↔Rw body s r:=by
 unfold QQ
 split
 ·rename_i r' D
  have y:=QiO _ _ D
  exact⟨λh=>by cases h;exact y,λh=>congrArg some (y.det h)⟩
 constructor
 ·intro h
  split at h
  ·rename_i hx;cases h;exact hx.choose_spec
  cases h
 intro h
 rw[dif_pos ⟨r,h⟩]
 exact congrArg some ((Exists.choose_spec (⟨r,h⟩:∃r,Rw body s r)).det h)
def KD {σ ρ:Type}(body:σ->O_ (σ⊕ρ))(s:σ):
  QQ body s=(body s).bind λx=>match x with | .inl D=>QQ body D | .inr r=>some r:=by
 apply Option.ext
 intro r
 rw[Tc]
 constructor
 ·intro h
  cases h with
  | done h=>simp[h]
  | next h h'=>simp[h,Tc.2 h']
 intro h
 cases y:body s with
 | none=>simp[y]at h
 | some x=>
  cases x with
  | inl D=>simp[y]at h;exact .next y (Tc.1 h)
  | inr r'=>simp[y]at h;subst h;exact .done y
def Qbd {P:Program}{ro:O_ Nat}{ρ:Operand->Value}{o:Oper}{w w':World}{v:Value}(h:(execOp ρ o).run P w=.ok (.value v) w'):(o.semAt ro ρ).run P w=.ok (.value v) w':=by
 have y:∀c,o.op≠.defer c:=λc e=>by
  simp only[execOp,e,Xf]at h
  cases D:(resolve ρ c o.type).run P w<;>rw[D]at h<;>simp[Result.andThen]at h
 rwa[Oper.semAt_eq _ _ _ y]
def QlJ {P:Program}{ro:O_ Nat}{ρ:Operand->Value}{o:Oper}{w w':World}(h:(execOp ρ o).run P w=.ok .skip w'):(o.semAt ro ρ).run P w=.ok .skip w':=by
 have y:∀c,o.op≠.defer c:=λc e=>by
  simp only[execOp,e,Xf]at h
  cases D:(resolve ρ c o.type).run P w<;>rw[D]at h<;>simp[Result.andThen]at h
 rwa[Oper.semAt_eq _ _ _ y]
def VN {P:Program}{ro:O_ Nat}{ρ:Operand->Value}{o:Oper}{w w':World}{f:FuncId}{xs:Array Value}(h:(execOp ρ o).run P w=.ok (.enter f xs) w'):(o.semAt ro ρ).run P w=.ok (.enter f xs) w':=by
 have y:∀c,o.op≠.defer c:=λc e=>by
  simp only[execOp,e,Xf]at h
  cases D:(resolve ρ c o.type).run P w<;>rw[D]at h<;>simp[Result.andThen]at h
 rwa[Oper.semAt_eq _ _ _ y]
def VO {C:XA}{n:Nat}{P:Program}{f:FuncId}{args:Array Value}{w:World}{R:Ending->World->Prop}(h:Calls P f args w R):CallsIn C.F n P f args w R:=
 (callsIn_wide (n:=n)).2 h
def up (C:XA)(Q:Exit->St->Prop):Exit->Act->World->Prop:=λe a w=>∃σ,Q e σ/\R C σ a w
def Ys (P:Program)(C:XA)(c:Code)(σ:St)(Q:Exit->St->Prop):Prop:=∀a w,R C σ a w->c.wpIn C.F 0 P (up C Q) a w
def ZD (K:St->Prop)(Q:Exit->St->Prop):Exit->St->Prop
 | .normal,σ=>K σ
 | e,σ=>Q e σ
def Rx (id:Nat)(Q:Exit->St->Prop):Exit->St->Prop
 | .exit h,σ=>bif Nat.beq h id then Q .normal σ else Q (.exit h) σ
 | e,σ=>Q e σ
section
variable {P:Program}{C:XA}{σ:St}{Q:Exit->St->Prop}
def Ys.mono {c:Code}{y:Exit->St->Prop}(h:Ys P C c σ Q)(hq:∀e σ,Q e σ->y e σ):Ys P C c σ y:=
 λa w hR=>wpIn_mono (h a w hR) λe a w ⟨σ,D,h2⟩=>⟨σ,hq e σ D,h2⟩
def Ys.seq {x y:Code}(h:Ys P C x σ (ZD (λσ'=>Ys P C y σ' Q) Q)):Ys P C (.seq x y) σ Q:=by
 intro a w hR
 refine wpIn_seq (wpIn_mono (h a w hR) ?_)
 rintro e a' w' ⟨σ',hq,D⟩
 cases e with
 | normal=>exact hq a' w' D
 | _=>exact⟨σ',hq,D⟩
def Ys.cond_true {c:Operand}{x y:Code}(hc:σ.opd c=some (.b true))(h:Ys P C x σ Q):Ys P C (.cond c x y) σ Q:=
 λa w D=>let ⟨_,hr⟩:=D;wpIn_cond_true (hr.opd hc).b_inv (h a w D)
def Ys.cond_false {c:Operand}{x y:Code}(hc:σ.opd c=some (.b false))(h:Ys P C y σ Q):Ys P C (.cond c x y) σ Q:=
 λa w D=>let ⟨_,hr⟩:=D;wpIn_cond_false (hr.opd hc).b_inv (h a w D)
def Ys.condT {c:Operand}{x y:Code}{t:Bool}(D:σ.opd c=some (.b t))(ht:t=true)(h:Ys P C x σ Q):Ys P C (.cond c x y) σ Q:=
 Ys.cond_true (ht▸D) h
def Ys.condF {c:Operand}{x y:Code}{t:Bool}(D:σ.opd c=some (.b t))(ht:t=false)(h:Ys P C y σ Q):Ys P C (.cond c x y) σ Q:=
 Ys.cond_false (ht▸D) h
def Ys.skip (h:Q .normal σ):Ys P C .skip σ Q:=λa w y=>wpIn_skip ⟨σ,h,y⟩
def Ys.exit {id:Nat}(h:Q (.exit id) σ):Ys P C (.exit id) σ Q:=λa w y=>wpIn_exit ⟨σ,h,y⟩
def Ys.ret (h:Q .ret σ):Ys P C .ret σ Q:=λa w y=>wpIn_ret ⟨σ,h,y⟩
def Ys.label {l:Nat}(h:Q .normal σ):Ys P C (.label l) σ Q:=λa w y=>wpIn_label ⟨σ,h,y⟩
def Ys.block {id:Nat}{c:Code}(h:Ys P C c σ (Rx id Q)):Ys P C (.block id c) σ Q:=by
 intro a w hR
 refine wpIn_block (wpIn_mono (h a w hR) ?_)
 rintro e a' w' ⟨σ',D,y⟩
 cases e with
 | exit id'=>
  simp only[Exit.inBlock,Rx]at *
  cases hb:Nat.beq id' id with
  | true=>rw[hb]at D;rw[if_pos (YE hb)];exact⟨σ',D,y⟩
  | false=>rw[hb]at D;rw[if_neg (λe=>by subst e;simp at hb)];exact⟨σ',D,y⟩
 | _=>exact⟨σ',D,y⟩
def Ys.weaken {c:Code}{σ':St}(h:∀a w,R C σ a w->R C σ' a w)(k:Ys P C c σ' Q):Ys P C c σ Q:=λa w y=>k a w (h a w y)
def Qnf {id y:Nat}(D:Nat.beq y id=true)(h:Q .normal σ):Rx id Q (.exit y) σ:=by
 show(bif Nat.beq y id then _ else _);rw[D];exact h
def Qng {id y:Nat}(D:Nat.beq y id=false)(h:Q (.exit y) σ):Rx id Q (.exit y) σ:=by
 show(bif Nat.beq y id then _ else _);rw[D];exact h
def Ys.seqK {x y:Code}(K:St->Prop)(D:Ys P C x σ (ZD K Q))(hy:∀σ',K σ'->Ys P C y σ' Q):Ys P C (.seq x y) σ Q:=
 Ys.seq (D.mono λe σ' h=>by cases e<;>first | exact hy σ' h | exact h)
def Ys.cut {x:Code}(K:St->Prop)(y:Ys P C x σ (ZD K Q))(D:∀σ',K σ'->Q .normal σ'):Ys P C x σ Q:=
 y.mono λe σ' h=>by cases e<;>first | exact D σ' h | exact h
def Ys.loop {τ ρ:Type}{body:τ->O_ (τ⊕ρ)}{c:Code}(E:τ->St->Prop)(y:ρ->Exit->St->Prop){s0:τ}{r:ρ}
  (round:∀s o σ,E s σ->body s=some o->Ys P C c σ (ZD (λσ'=>∃s',o=.inl s'/\E s' σ') (λe σ'=>∃r,o=.inr r/\y r e σ')))
  (hr:Rw body s0 r) (h0:E s0 σ) (hQ:∀e σ',y r e σ'->Q e σ'):Ys P C (.loop c) σ Q:=by
 have key:∃n,∀σ a w,E s0 σ->R C σ a w->Code.roundsIn C.F 0 P c (up C Q) n a w:=by
  clear h0
  induction hr with
  | done hb=>
   refine⟨1,λσ a w hE hR=>?_⟩
   rw[roundsIn_succ]
   refine wpIn_mono (round _ _ σ hE hb a w hR) ?_
   rintro e a' w' ⟨σ',hq,D⟩
   cases e with
   | normal=>obtain⟨s',h,_⟩:=hq;cases h
   | _=>obtain⟨r,h,hp⟩:=hq;cases h;exact⟨σ',hQ _ _ hp,D⟩
  | next hb hn ih=>
   obtain⟨n,hn⟩:=ih hQ
   refine⟨n+1,λσ a w hE hR=>?_⟩
   rw[roundsIn_succ]
   refine wpIn_mono (round _ _ σ hE hb a w hR) ?_
   rintro e a' w' ⟨σ',hq,D⟩
   cases e with
   | normal=>obtain⟨s',h,hE'⟩:=hq;cases h;exact hn σ' a' w' hE' D
   | _=>obtain⟨r,h,hp⟩:=hq;cases h
 obtain⟨n,hn⟩:=key
 exact λa w hR=>wpIn_loop_rounds n (hn σ a w h0 hR)
end
def AL (P:Program)(C:XA)(ops:Array Oper)(l:L_ Oper)(σ:St)(Q:Exit->St->Prop):Prop:=∀a w,R C σ a w->wpListIn C.F 0 P ops (up C Q) l a w
def Qf (P:Program)(C:XA)(o:Oper)(σ σ':St):Prop:=
 ∀a w,R C σ a w->∀(next:Act->World->Prop) (Q:Exit->Act->World->Prop),(∀h w',R C σ' h w'->next h w')->o.wpIn C.F 0 P a w next Q
section
variable {P:Program}{C:XA}{ops:Array Oper}{σ σ':St}{Q:Exit->St->Prop}{o:Oper}{rest:L_ Oper}
def Ys.region {id:Nat}(h:AL P C ops ops.toList σ Q):Ys P C (.region id ops false) σ Q:=by
 intro a w y
 exact wpIn_region_list (h a w y)
def AL.nil (h:Q .normal σ):AL P C ops [] σ Q:=λa w y=>⟨σ,h,y⟩
def AL.weaken (h:∀a w,R C σ a w->R C σ' a w)(k:AL P C ops rest σ' Q):AL P C ops rest σ Q:=λa w y=>k a w (h a w y)
def AL.cons (hg:o.guard=none)(h:Qf P C o σ σ')(k:AL P C ops rest σ' Q):AL P C ops (o::rest) σ Q:=by
 intro a w hR
 simp only[wpListIn,Region.wanted,hg,if_true]
 exact(h a w hR _ _ λD w' y=>k D w' y)
def R.yielded {a:Act}{w:World}(D:R C σ a w){j d:Nat}{t:Bool}(hj:((ops[j]?).bind (·.dst))=some d)(hv:look σ.fr d=some (.b t)):yielded ops a.tmps j=some t:=by
 obtain⟨φ,hr⟩:=D
 obtain⟨x,y,h⟩:=hr.frame d _ hv
 rw[h.b_inv]at y
 simp[Go.yielded,hj,y]
def AL.consG {j d:Nat}{t:Bool}(hg:o.guard=some (j,t))(hj:((ops[j]?).bind (·.dst))=some d)(hv:look σ.fr d=some (.b t))(h:Qf P C o σ σ')(k:AL P C ops rest σ' Q):
  AL P C ops (o::rest) σ Q:=by
 intro a w D
 simp only[wpListIn,Region.wanted,hg,D.yielded hj hv]
 simp only[beq_self_eq_true,if_true]
 exact(h a w D _ _ λa' w' y=>k a' w' y)
def AL.consGT {j d:Nat}{c t:Bool}(D:o.guard=some (j,t))(hj:((ops[j]?).bind (·.dst))=some d)(hv:look σ.fr d=some (.b c))(y:c=t)(h:Qf P C o σ σ')(k:AL P C ops rest σ' Q):
  AL P C ops (o::rest) σ Q:=AL.consG D hj (y▸hv) h k
def AL.consN {j d t:Nat}{u:Bool}(y:o.guard=some (j,!u))(D:((ops[j]?).bind (·.dst))=some d)(hv:look σ.fr d=some (.b u))(ho:o.dst=some t)(ht:t<C.n)
  (k:AL P C ops rest (σ.put t (.lit undef)) Q):AL P C ops (o::rest) σ Q:=by
 intro a w h
 simp only[wpListIn,Region.wanted,y,h.yielded D hv]
 rw[if_neg (by cases u<;>decide)]
 refine⟨λ_ _=>trivial,k _ _ ?_⟩
 obtain⟨φ,hr⟩:=h
 rw[ho]
 exact⟨φ,hr.put ht (.dat (.lit _))⟩
def AL.consN0 {j d:Nat}{u:Bool}(y:o.guard=some (j,!u))(D:((ops[j]?).bind (·.dst))=some d)(hv:look σ.fr d=some (.b u))(ho:o.dst=none)
  (k:AL P C ops rest σ Q):AL P C ops (o::rest) σ Q:=by
 intro a w h
 simp only[wpListIn,Region.wanted,y,h.yielded D hv]
 rw[if_neg (by cases u<;>decide)]
 refine⟨λ_ _=>trivial,k _ _ ?_⟩
 rw[ho]
 exact h
def AL.consNT {j d t:Nat}{c u:Bool}(y:o.guard=some (j,u))(D:((ops[j]?).bind (·.dst))=some d)(hv:look σ.fr d=some (.b c))(h:c=!u)(ho:o.dst=some t)(ht:B_ t C)
  (k:AL P C ops rest (σ.put t (.lit undef)) Q):AL P C ops (o::rest) σ Q:=
 AL.consN (u:=!u) (by rw[y];simp) D (h▸hv) ho (JK ht) k
def AL.consNT0 {j d:Nat}{c u:Bool}(y:o.guard=some (j,u))(D:((ops[j]?).bind (·.dst))=some d)(hv:look σ.fr d=some (.b c))(h:c=!u)(ho:o.dst=none)
  (k:AL P C ops rest σ Q):AL P C ops (o::rest) σ Q:=
 AL.consN0 (u:=!u) (by rw[y];simp) D (h▸hv) ho k
def R.unyielded {a:Act}{w:World}(D:R C σ a w){j d:Nat}(hj:((ops[j]?).bind (·.dst))=some d)(hv:look σ.fr d=some (.lit undef)):Go.yielded ops a.tmps j=none:=by
 obtain⟨φ,hr⟩:=D
 obtain⟨x,y,h⟩:=hr.frame d _ hv
 rw[h.lit_inv]at y
 simp[Go.yielded,hj,y,undef]
def AL.consU {j d t:Nat}{u:Bool}(y:o.guard=some (j,u))(D:((ops[j]?).bind (·.dst))=some d)(hv:look σ.fr d=some (.lit undef))(ho:o.dst=some t)(ht:B_ t C)
  (k:AL P C ops rest (σ.put t (.lit undef)) Q):AL P C ops (o::rest) σ Q:=by
 intro a w h
 simp only[wpListIn,Region.wanted,y,h.unyielded D hv]
 rw[if_neg (by simp)]
 refine⟨λ_ _=>trivial,k _ _ ?_⟩
 obtain⟨φ,hr⟩:=h
 rw[ho]
 exact⟨φ,hr.put (JK ht) (.dat (.lit _))⟩
def AL.consU0 {j d:Nat}{u:Bool}(y:o.guard=some (j,u))(D:((ops[j]?).bind (·.dst))=some d)(hv:look σ.fr d=some (.lit undef))(ho:o.dst=none)
  (k:AL P C ops rest σ Q):AL P C ops (o::rest) σ Q:=by
 intro a w h
 simp only[wpListIn,Region.wanted,y,h.unyielded D hv]
 rw[if_neg (by simp)]
 refine⟨λ_ _=>trivial,k _ _ ?_⟩
 rw[ho]
 exact h
def Qf.val (h:∀φ a w,RR C φ σ a w->∃x w' φ',(execOp a.eval o).run P w=.ok (.value x) w'/\RR C φ' σ' (a.put o.dst x) w'):Qf P C o σ σ':=by
 intro a w ⟨φ,hr⟩ next Q hn
 obtain⟨x,w',φ',D,y⟩:=h φ a w hr
 refine⟨λ_ _=>trivial,?_⟩
 rw[Qbd D]
 exact hn _ _ ⟨φ',y⟩
def Qf.skp (h:∀φ a w,RR C φ σ a w->∃w' φ',(execOp a.eval o).run P w=.ok .skip w'/\RR C φ' σ' (a.put o.dst undef) w'):Qf P C o σ σ':=by
 intro a w ⟨φ,hr⟩ next Q hn
 obtain⟨w',φ',D,y⟩:=h φ a w hr
 refine⟨λ_ _=>trivial,?_⟩
 rw[QlJ D]
 exact hn _ _ ⟨φ',y⟩
end
section
variable {P:Program}{C:XA}{σ:St}{o:Oper}
def XP {a b:Nat}(h:Nat.ble (a+1) b=true):a<b:=JK h
def Qf.same {d:Nat}{v:V}(D:o.dst=some d)(hn:B_ d C)
  (h:∀φ a w,RR C φ σ a w->∃x,(execOp a.eval o).run P w=.ok (.value x) w/\QO φ (Xj C φ w) w x v):Qf P C o σ (σ.put d v):=by
 refine Qf.val λφ a w y=>?_
 obtain⟨x,he,hx⟩:=h φ a w y
 exact⟨x,w,φ,he,by rw[D];exact y.put (XP hn) hx⟩
def Qf.move {x:Operand}{d:Nat}{v:V}(D:o.op=.move x)(h:o.dst=some d)(y:B_ d C)(hx:σ.opd x=some v):Qf P C o σ (σ.put d v):=
 Qf.same h y λφ a w hr=>⟨a.eval x,by simp[execOp,D],hr.opd hx⟩
def Qf.assign {x:Operand}{d:Nat}{v:V}(D:o.op=.assign x)(h:o.dst=some d)(y:B_ d C)(hx:σ.opd x=some v):Qf P C o σ (σ.put d v):=
 Qf.same h y λφ a w hr=>⟨a.eval x,by simp[execOp,D],hr.opd hx⟩
def Qf.pickT {c x y:Operand}{d:Nat}{t:Bool}{v:V}(ho:o.op=.pick c x y)(hd:o.dst=some d)(hn:B_ d C)(D:σ.opd c=some (.b t))(ht:t=true)
  (hx:σ.opd x=some v):Qf P C o σ (σ.put d v):=
 Qf.same hd hn λφ a w h=>⟨a.eval x,by simp[execOp,ho,(h.opd D).b_inv,asBool,ht],h.opd hx⟩
def Qf.pickF {c x y:Operand}{d:Nat}{t:Bool}{v:V}(ho:o.op=.pick c x y)(hd:o.dst=some d)(hn:B_ d C)(D:σ.opd c=some (.b t))(ht:t=false)
  (hx:σ.opd y=some v):Qf P C o σ (σ.put d v):=
 Qf.same hd hn λφ a w h=>⟨a.eval y,by simp[execOp,ho,(h.opd D).b_inv,asBool,ht],h.opd hx⟩
def QiP (op:BinOp)(k:IntKind)(a b:Int):O_ V:=
 match op with
 | .add=>some (.i k (k.wrap (a+b)))
 | .sub=>some (.i k (k.wrap (a-b)))
 | .mul=>some (.i k (k.wrap (a*b)))
 | .eql=>some (.b (a==b))
 | .neq=>some (.b (a != b))
 | .lss=>some (.b (decide (a<b)))
 | .leq=>some (.b (decide (a<=b)))
 | .gtr=>some (.b (decide (b<a)))
 | .geq=>some (.b (decide (b<=a)))
 | _=>none
def Qf.bin {op:BinOp}{x y:Operand}{T U d:Nat}{k:IntKind}{m n:Int}{v:V}(ho:o.op=.binOp op T x y U)(hd:o.dst=some d)(hn:B_ d C)
  (hx:σ.opd x=some (.i k m)) (hy:σ.opd y=some (.i k n)) (hv:QiP op k m n=some v):Qf P C o σ (σ.put d v):=by
 refine Qf.same hd hn λφ a w hr=>?_
 have h:=(hr.opd hx).i_inv
 have D:=(hr.opd hy).i_inv
 cases op<;>simp only[QiP,Option.some.injEq,reduceCtorEq]at hv<;>subst hv <;>
  first
  | exact⟨.int k _,by simp[execOp,ho,h,D,eqGuard,binOp,Op.intArith],.dat (.i _ _)⟩
  | exact⟨.bool _,by simp[execOp,ho,h,D,eqGuard,binOp,Op.intCmp],.dat (.b _)⟩
def Qf.divi {op:BinOp}{x y:Operand}{T U d:Nat}{k:IntKind}{m n:Int}{v:V}(ho:o.op=.binOp op T x y U)(hd:o.dst=some d)(hn:B_ d C)
  (hx:σ.opd x=some (.i k m)) (hy:σ.opd y=some (.i k n)) (D:n≠0) (hv:(op=.quo/\v=.i k (k.wrap (m.tdiv n)))\/(op=.rem/\v=.i k (m.tmod n))):Qf P C o σ (σ.put d v):=by
 refine Qf.same hd hn λφ a w h=>?_
 have h1:=(h.opd hx).i_inv
 have h2:=(h.opd hy).i_inv
 rcases hv with⟨rfl,rfl⟩|⟨rfl,rfl⟩ <;>
  exact⟨.int k _,by simp[execOp,ho,h1,h2,eqGuard,binOp,Op.intDiv,D],.dat (.i _ _)⟩
def Qf.not {x:Operand}{T d:Nat}{t:Bool}(D:o.op=.unOp .not T x)(h:o.dst=some d)(y:B_ d C)(hx:σ.opd x=some (.b t)):
  Qf P C o σ (σ.put d (.b (!t))):=
 Qf.same h y λφ a w hr=>⟨.bool (!t),by simp[execOp,D,(hr.opd hx).b_inv,Op.unary],.dat (.b _)⟩
def Qf.neg {x:Operand}{T d:Nat}{k:IntKind}{m:Int}(D:o.op=.unOp .neg T x)(h:o.dst=some d)(y:B_ d C)(hx:σ.opd x=some (.i k m)):
  Qf P C o σ (σ.put d (.i k (k.wrap (0-m)))):=
 Qf.same h y λφ a w hr=>⟨.int k _,by simp[execOp,D,(hr.opd hx).i_inv,Op.unary,Op.intArith],.dat (.i _ _)⟩
def Ea (P:Program)(t:TypeId):O_ Bool:=
 match P.underlying t with
 | some (.struct _) | some (.array _ _)=>some true
 | some _=>some false
 | none=>none
def FV (P:Program)(t:TypeId)(f:Nat):O_ Nat:=
 match P.underlying t with
 | some (.struct fs)=>match fs[f]? with
  | some h=>match P.info? h.type with
   | some i=>if i.size=0 then none else some h.offset
   | none=>none
  | none=>none
 | _=>none
def Yo (P:Program)(t:TypeId):O_ (TypeId×Nat×Nat):=
 match P.underlying t with
 | some (.slice e)=>match P.info? e with
  | some i=>some (e,i.size,i.bytes)
  | none=>none
 | _=>none
def Td (P:Program)(t:TypeId):O_ (Nat×Nat):=
 match P.underlying t with
 | some (.array n e)=>match P.info? e with
  | some i=>some (n,i.size)
  | none=>none
 | _=>none
def XX (P:Program)(t:TypeId):O_ (L_ V):=
 match P.info? t with
 | some i=>match i.zero with
  | some z=>some (z.cells.toList.map UZ)
  | none=>none
 | none=>none
def UC (P:Program)(t:TypeId):O_ Nat:=(P.info? t).map (·.size)
def Te {t:TypeId}{g:Bool}(h:Ea P t=some g)(w:World):(isAgg t).run P w=.ok g w:=by
 unfold Ea at h
 unfold isAgg
 split at h<;>simp_all[underlying]
def ZE {t:TypeId}{n:Nat}(h:UC P t=some n)(w:World):(sizeOf t).run P w=.ok n w:=by
 unfold UC at h
 cases y:P.info? t with
 | none=>simp[y]at h
 | some i=>simp[y]at h;simp[sizeOf,typeInfo,y,h]
def V.cells : V->L_ V
 | .agg h=>h
 | v=>[v]
def QO.oneCell {φ:Nat->O_ Xa}{I:Nat->Prop}{w:World}{x:Value}{v:V}(h:QO φ I w x v)(y:v.one=true):x.cells=#[x]/\x.oneCell'=true:=by
 cases h with
 | dat h=>cases h with
  | lit=>cases x<;>first | exact⟨rfl,rfl⟩|simp[V.one]at y
  | _=>first | exact⟨rfl,rfl⟩|simp[V.one]at y
 | _=>first | exact⟨rfl,rfl⟩|simp[V.one]at y
def QO.cells {φ:Nat->O_ Xa}{I:Nat->Prop}{w:World}{x:Value}{v:V}(h:QO φ I w x v)(D:v.one=true\/∃cs,v=.agg cs):
  x.cells.size=v.cells.length/\∀(j:Nat) y u,x.cells[j]? = some y->v.cells[j]? = some u->QO φ I w y u:=by
 rcases D with D | ⟨cs,rfl⟩
 ·have hc:=(h.oneCell D).1
  have hvc:v.cells=[v]:=by cases v<;>first | rfl | simp[V.one]at D
  rw[hc,hvc]
  refine⟨rfl,λj y u hy hu=>?_⟩
  cases j with
  | zero=>simp at hy hu;subst hy;subst hu;exact h
  | succ j=>simp at hy
 obtain⟨xs,rfl,hs,hr⟩:=h.agg_inv
 exact⟨hs,hr⟩
end
def ext (φ:Nat->O_ Xa)(o:Nat)(B:Xa):Nat->O_ Xa:=λk=>if k=o then some B else φ k
def XD (φ:Nat->O_ Xa)(o:Nat)(B:Xa):ext φ o B o=some B:=by simp[ext]
def Xq {φ:Nat->O_ Xa}{o k:Nat}(B:Xa)(h:k≠o):ext φ o B k=φ k:=by simp[ext,h]
def St.look_set_same (σ:St)(o:Nat)(ob:Ob):look (σ.set o ob).hp o=some ob:=QC _ _ _
def St.look_set_other (σ:St){o k:Nat}(ob:Ob)(h:o≠k):look (σ.set o ob).hp k=look σ.hp k:=QA _ _ h
def XA.slot (C:XA){d:Nat}(h:B_ d C):d<617:=by
 have:=JK h;have:=C.small;omega
section
variable {C:XA}{φ:Nat->O_ Xa}{σ:St}{a:Act}{w:World}
def Tb.set {φ0:Nat->O_ Xa}{b:Nat}{ob ob':Ob}(h:Tb φ0 φ σ.hp)(D:look σ.hp b=some ob):Tb φ0 φ (σ.set b ob').hp:=h.sub λo ob2 y=>by
 by_cases e:o=b
 ·subst e;exact⟨_,D⟩
 rw[σ.look_set_other _ (Ne.symm e)]at y;exact⟨_,y⟩
def RR.none_of_look (h:RR C φ σ a w){o:Nat}(ho:look σ.hp o=none):φ o=none:=by
 cases D:φ o with
 | none=>rfl
 | some B=>obtain⟨ob,y⟩:=h.dom o B D;rw[ho]at y;cases y
def Rn {b cap z k:Nat}(h:({ b:=b,cap:=cap,z:=z }:Xa).has k):k=b:=by
 rcases h with h | h
 ·exact h
 cases h
def RR.imm_alloc (h:RR C φ σ a w)(o cap z:Nat)(obj:Obj)(hn:φ o=none):
  ∀k,Xj C φ w k->Xj C (ext φ o ⟨w.heap.size,cap,z,[],0⟩) (w.alloc obj) k/\(w.alloc obj).heap[k]? = w.heap[k]? := by
 intro k ⟨h1,h2,h3⟩
 refine⟨⟨by simp;omega,h2,λo' B y=>?_⟩,Below.heap_alloc w obj k h1⟩
 by_cases D:o'=o
 ·subst D;rw[XD]at y;cases y;intro hh;have:=Rn hh;omega
 rw[Xq _ D]at y;exact h3 o' B y
def RR.mono_ext (h:RR C φ σ a w){o:Nat}(B:Xa)(D:φ o=none):∀o' B',φ o'=some B'->ext φ o B o'=some B':=by
 intro o' B' y
 rw[Xq _ (λe=>by subst e;rw[D]at y;cases y)];exact y
def RR.alloc (h:RR C φ σ a w){o cap z:Nat}(ho:look σ.hp o=none)(hlt:o<617){ob:Ob}{obj:Obj}
  (hrep:JL (ext φ o ⟨w.heap.size,cap,z,[],0⟩) (Xj C (ext φ o ⟨w.heap.size,cap,z,[],0⟩) (w.alloc obj)) (w.alloc obj) ⟨w.heap.size,cap,z,[],0⟩ ob):
  RR C (ext φ o ⟨w.heap.size,cap,z,[],0⟩) (σ.set o ob) a (w.alloc obj):=by
 have hn:=h.none_of_look ho
 have hI:=h.imm_alloc o cap z obj hn
 have hm:=h.mono_ext ⟨w.heap.size,cap,z,[],0⟩ hn
 refine⟨h.os,h.tape,h.output,by have:=h.size;simp;omega,λk h1 h2=>?_,?_,?_,?_,?_,⟨?_,λo' ob' B hge D y=>by rw[Xq _ (by omega)];exact h.stay.2 o' ob' B hge (by rwa[σ.look_set_other _ (by omega)]at D) y⟩,h.tmps,h.defers.mono hI,?_,?_⟩
 ·rw[Below.heap_alloc w obj k (Aj h1 h.size)];exact h.kept k h1 h2
 ·intro o1 o2 B1 B2 k h1 h2 b1 b2
  by_cases e1:o1=o<;>by_cases e2:o2=o
  ·rw[e1,e2]
  ·subst e1;rw[XD]at h1;cases h1;rw[Xq _ e2]at h2
   have:=(h.lt o2 B2 k h2 b2).1;have:=Rn b1;omega
  ·subst e2;rw[XD]at h2;cases h2;rw[Xq _ e1]at h1
   have:=(h.lt o1 B1 k h1 b1).1;have:=Rn b2;omega
  rw[Xq _ e1]at h1;rw[Xq _ e2]at h2;exact h.inj o1 o2 B1 B2 k h1 h2 b1 b2
 ·intro o' B y
  by_cases e:o'=o
  ·subst e;exact⟨ob,σ.look_set_same _ _⟩
  rw[Xq _ e]at y;obtain⟨ob',h'⟩:=h.dom o' B y;exact⟨ob',by rw[σ.look_set_other _ (Ne.symm e)];exact h'⟩
 ·intro o' B k y hk
  by_cases e:o'=o
  ·subst e;rw[XD]at y;cases y;rw[Rn hk];exact⟨by simp,λhlt=>absurd h.size (by omega)⟩
  rw[Xq _ e]at y;have:=h.lt o' B k y hk;exact⟨by simp;omega,this.2⟩
 ·intro o' B k y hk hlt
  by_cases e:o'=o
  ·subst e;rw[XD]at y;cases y;rw[Rn hk];exact h.size
  rw[Xq _ e]at y;exact h.new o' B k y hk hlt
 ·intro o' B hge y
  rw[Xq _ (by omega)]at y;exact h.stay.1 o' B hge y
 ·intro t v hv
  obtain⟨x,hx,hr⟩:=h.frame t v hv
  exact⟨x,hx,hr.mono hm hI⟩
 intro o' ob' D
 by_cases e:o'=o
 ·subst e;rw[σ.look_set_same]at D;cases D;exact .inl ⟨_,XD _ _ _,hrep⟩
 rw[σ.look_set_other _ (Ne.symm e)]at D
 rcases h.heap o' ob' D with⟨B,y,hr⟩|⟨h1,h2⟩
 ·exact .inl ⟨B,by rw[Xq _ e];exact y,hr.mono hm hI λk hk=>Below.heap_alloc w obj _ (h.lt o' B k y hk).1⟩
 exact .inr ⟨by rw[Xq _ e];exact h1,h2⟩
def RR.change (h:RR C φ σ a w){o:Nat}{B:Xa}(hB:φ o=some B){B':Xa}(hb:B'.b=B.b/\B'.cap=B.cap/\B'.z=B.z/\B'.off=B.off)(hst:617<=o->B'=B){ob:Ob}{w':World}(ho:w'.os=w.os)(ht:w'.tape=w.tape)(hu:w'.output=w.output)
  (hs:w.heap.size<=w'.heap.size) (hk:∀k,k<w.heap.size->¬B.has k->w'.heap[k]? = w.heap[k]?) (hB':∀k,B'.has k->k<w'.heap.size/\(B.has k\/w.heap.size<=k))
  (hrep:JL (ext φ o B') (Xj C (ext φ o B') w') w' B' ob):RR C (ext φ o B') (σ.set o ob) a w':=by
 have hI:∀k,Xj C φ w k->Xj C (ext φ o B') w' k/\w'.heap[k]? = w.heap[k]? := λk hk'=>by
  refine⟨⟨Aj hk'.1 hs,hk'.2.1,λo' B1 y=>?_⟩,hk k hk'.1 (hk'.2.2 o B hB)⟩
  by_cases e:o'=o
  ·subst e;rw[XD]at y;cases y
   intro hh
   rcases(hB' k hh).2 with h2 | h2
   ·exact hk'.2.2 o' B hB h2
   have:=hk'.1;omega
  rw[Xq _ e]at y;exact hk'.2.2 o' B1 y
 have hrepV:∀{x:Value} {v:V},QO φ (Xj C φ w) w x v->QO (ext φ o B') (Xj C (ext φ o B') w') w' x v:=by
  intro x v hr
  induction hr with
  | dat d=>exact .dat (d.mono hI)
  | own0 p=>exact .own0 p
  | own p n B1 y hn=>
   by_cases e:p=o
   ·subst e;rw[hB]at y;cases y
    have:=QO.own (φ:=ext φ p B') (I:=Xj C (ext φ p B') w') (w:=w') p n B' (XD _ _ _) (by rw[hb.2.1];exact hn)
    rwa[hb.1,hb.2.1,hb.2.2.2]at this
   exact .own p n B1 (by rw[Xq _ e];exact y) hn
  | loc p i d B1 y=>
   by_cases e:p=o
   ·subst e;rw[hB]at y;cases y
    have:=QO.loc (φ:=ext φ p B') (I:=Xj C (ext φ p B') w') (w:=w') p i d B' (XD _ _ _)
    rwa[hb.1,hb.2.2.1,hb.2.2.2]at this
   exact .loc p i d B1 (by rw[Xq _ e];exact y)
  | map p B1 y=>
   by_cases e:p=o
   ·subst e;rw[hB]at y;cases y
    have:=QO.map (φ:=ext φ p B') (I:=Xj C (ext φ p B') w') (w:=w') p B' (XD _ _ _)
    rwa[hb.1]at this
   exact .map p B1 (by rw[Xq _ e];exact y)
  | agg xs cs hs _ ih=>exact .agg xs cs hs ih
  | tup xs cs hs _ ih=>exact .tup xs cs hs ih
  | ifc t x v _ ih=>exact .ifc t x v ih
  | clo fn xs ys vs us y h2 _ _ ih1 ih2=>exact .clo fn xs ys vs us y h2 ih1 ih2
 have old:∀o' B1,o'≠o->φ o'=some B1->∀k,B1.has k->w'.heap[k]? = w.heap[k]? := λo' B1 hne y k hk1=>
  hk k (h.lt o' B1 k y hk1).1 λh2=>hne (h.inj o' o B1 B k y hB hk1 h2)
 refine⟨ho.trans h.os,ht.trans h.tape,hu.trans h.output,Kj h.size hs,λk y h2=>?_,?_,?_,?_,?_,⟨?_,λo' ob' B1 hge ho' y=>by
  by_cases e:o'=o
  ·subst e;rw[XD,hst hge];have:=h.stay.1 o' B hge hB;rw[y]at this;exact this.symm
  rw[Xq _ e];exact h.stay.2 o' ob' B1 hge (by rwa[σ.look_set_other _ (Ne.symm e)]at ho') y⟩,h.tmps,h.defers.mono hI,?_,?_⟩
 ·refine(hk k (Aj y h.size) λhh=>h2 ((h.lt o B k hB hh).2 y)).trans (h.kept k y h2)
 ·intro o1 o2 B1 B2 k y h2 b1 b2
  by_cases e1:o1=o<;>by_cases e2:o2=o
  ·rw[e1,e2]
  ·subst e1;rw[XD]at y;cases y;rw[Xq _ e2]at h2
   rcases(hB' k b1).2 with h3 | h3
   ·exact h.inj o1 o2 B B2 k hB h2 h3 b2
   have:=(h.lt o2 B2 k h2 b2).1;omega
  ·subst e2;rw[XD]at h2;cases h2;rw[Xq _ e1]at y
   rcases(hB' k b2).2 with h3 | h3
   ·exact h.inj o1 o2 B1 B k y hB b1 h3
   have:=(h.lt o1 B1 k y b1).1;omega
  rw[Xq _ e1]at y;rw[Xq _ e2]at h2;exact h.inj o1 o2 B1 B2 k y h2 b1 b2
 ·intro o' B1 y
  by_cases e:o'=o
  ·subst e;exact⟨ob,σ.look_set_same _ _⟩
  rw[Xq _ e]at y;obtain⟨ob',h'⟩:=h.dom o' B1 y;exact⟨ob',by rw[σ.look_set_other _ (Ne.symm e)];exact h'⟩
 ·intro o' B1 k y hk1
  by_cases e:o'=o
  ·subst e;rw[XD]at y;cases y
   refine⟨(hB' k hk1).1,λhlt=>?_⟩
   rcases(hB' k hk1).2 with h3 | h3
   ·exact(h.lt o' B k hB h3).2 hlt
   exact absurd h.size (by omega)
  rw[Xq _ e]at y;have:=h.lt o' B1 k y hk1;exact⟨by omega,this.2⟩
 ·intro o' B1 k y hk1 hlt
  by_cases e:o'=o
  ·subst e;rw[XD]at y;cases y
   rcases(hB' k hk1).2 with h3 | h3
   ·exact h.new o' B k hB h3 hlt
   have:=h.size;omega
  rw[Xq _ e]at y;exact h.new o' B1 k y hk1 hlt
 ·intro o' B1 hge y
  by_cases e:o'=o
  ·subst e;rw[XD]at y;cases y;rw[hst hge];exact h.stay.1 o' B hge hB
  rw[Xq _ e]at y;exact h.stay.1 o' B1 hge y
 ·intro t v hv
  obtain⟨x,hx,hr⟩:=h.frame t v hv
  exact⟨x,hx,hrepV hr⟩
 intro o' ob' ho'
 by_cases e:o'=o
 ·subst e;rw[σ.look_set_same]at ho';cases ho';exact .inl ⟨B',XD _ _ _,hrep⟩
 rw[σ.look_set_other _ (Ne.symm e)]at ho'
 rcases h.heap o' ob' ho' with⟨B1,y,hr⟩|⟨y,h2⟩
 ·refine .inl ⟨B1,by rw[Xq _ e];exact y,?_⟩
  cases ob' with
  | var vs=>
   obtain⟨cs,E,a1,a2,a0,a3⟩:=hr
   exact⟨cs,E,(old o' B1 e y _ B1.self).trans a1,a2,a0,λj x v hx hv=>hrepV (a3 j x v hx hv)⟩
  | lp l K vs q=>
   obtain⟨tmps,D,rfl,a1,a2,a3,a4⟩:=hr
   exact⟨tmps,D,rfl,a1,(old o' B1 e y _ B1.self).trans a2,a3,λj x v hx hv=>hrepV (a4 j x v hx hv)⟩
  | arr z rs=>exact Yn.mono hI (old o' B1 e y _ B1.self) hr
  | map l=>exact Df.mono hI (old o' B1 e y _ B1.self) hr
  | grp z l lk=>exact Gu.mono hI (old o' B1 e y) hr
  | mapX bm clock L l=>exact UY.mono hI (old o' B1 e y _ B1.self) hr
  | itr bm since seen cur=>exact Rr.mono (old o' B1 e y _ B1.self) hr
  | itr0=>obtain⟨s,c,h3⟩:=hr;exact⟨s,c,(old o' B1 e y _ B1.self).trans h3.1,h3.2⟩
  | tbl A z rs=>exact Ue.mono hI (old o' B1 e y) hr
  | nst x v=>exact Ru.mono (old o' B1 e y) hr
  | scr D H=>exact Rv.mono (old o' B1 e y) hr
 exact .inr ⟨by rw[Xq _ e];exact y,h2⟩
def ZF {φ:Nat->O_ Xa}{o:Nat}{B:Xa}(h:φ o=some B):ext φ o B=φ:=by
 funext k
 by_cases e:k=o
 ·subst e;rw[XD,h]
 rw[Xq _ e]
def RR.write (h:RR C φ σ a w){o:Nat}{B:Xa}(D:φ o=some B){ob:Ob}{w':World}(ho:w'.os=w.os)(ht:w'.tape=w.tape)(hu:w'.output=w.output)
  (hs:w'.heap.size=w.heap.size) (hk:∀k,k≠B.b->w'.heap[k]? = w.heap[k]?) (y:JL φ (Xj C φ w') w' B ob):RR C φ (σ.set o ob) a w':=by
 have:=h.change D (B':=B) ⟨rfl,rfl,rfl,rfl⟩ (λ_=>rfl) (ob:=ob) (w':=w') ho ht hu (by omega) (λk _ hne=>hk k λe=>hne (.inl e)) (λk hk=>⟨by rw[hs];exact(h.lt o B k D hk).1,.inl hk⟩) (by rw[ZF D];exact y)
 rwa[ZF D]at this
def RR.block (h:RR C φ σ a w){o:Nat}{B:Xa}(D:φ o=some B){ob:Ob}(ho:look σ.hp o=some ob):JL φ (Xj C φ w) w B ob:=by
 rcases h.heap o ob ho with⟨B',y,hr⟩|⟨hn,_⟩
 ·rw[D]at y;cases y;exact hr
 rw[hn]at D;cases D
end
def Xy.const {I:Nat->Prop}{w:World}(x:Value):Xy I w x (UZ x):=by
 cases x<;>first | exact .b _ | exact .i _ _ | exact .s _ | exact .lit _
def V.plain : V->Bool
 | .b _=>true
 | .i _ _=>true
 | .s _=>true
 | .lit _=>true
 | .J=>true
 | .sl _ _=>true
 | .sln _ _ _=>true
 | .e0=>true
 | .ro _=>true
 | _=>false
def QO.plain {φ:Nat->O_ Xa}{I:Nat->Prop}{w:World}{x:Value}{v:V}(h:QO φ I w x v)(y:v.plain=true):Xy I w x v:=by
 cases h with
 | dat h=>exact h
 | _=>cases y
def QO.aggPlain {φ:Nat->O_ Xa}{I:Nat->Prop}{w:World}{xs:Array Value}{h:L_ V}(hs:xs.size=h.length)(hr:∀(j:Nat) x v,xs[j]? = some x->h[j]? = some v->QO φ I w x v)(D:h.all V.plain=true):Xy I w (.agg xs) (.agg h):=by
 rw[XE]at D
 exact .agg xs h hs λj x v hx y=>(hr j x v hx y).plain (D v (XU y))
def V.dat : V->Bool
 | .own _ _=>false
 | .loc _ _ _=>false
 | .map _=>false
 | .clo _ _ _=>false
 | .agg h=>h.all V.plain
 | .tup _=>false
 | .ifc _ x=>x.dat
 | _=>true
def QO.toDat {φ:Nat->O_ Xa}{I:Nat->Prop}{w:World}{x:Value}{v:V}(h:QO φ I w x v)(y:v.dat=true):Xy I w x v:=by
 induction h with
 | dat h=>exact h
 | ifc t x v h ih=>exact .ifc t x v (ih (by simpa[V.dat] using y))
 | agg xs cs hs D _=>exact QO.aggPlain hs D y
 | _=>simp[V.dat]at y
section
variable {P:Program}{C:XA}{σ:St}{o:Oper}
def Qf.alloc {T d:Nat}{zs:L_ V}(ho:o.op=.alloc T)(hd:o.dst=some d)(hn:B_ d C)(h:XX P T=some zs)(hf:look σ.hp d=none):
  Qf P C o σ ((σ.set d (.var zs)).put d (.loc d 0 0)):=by
 refine Qf.val λφ a w hr=>?_
 unfold XX at h
 split at h
 ·rename_i i hi
  split at h
  ·rename_i z D
   cases h
   refine⟨.pointer (some ⟨w.heap.size,0,none⟩),w.alloc (.cells z.cells T),ext φ d ⟨w.heap.size,1,0,[],0⟩,?_,?_⟩
   ·simp[execOp,ho,Instr.alloc,zeroValue,typeInfo,hi,D,newVar,newRow]
   have y:=(hr.alloc (cap:=1) (z:=0) hf (C.slot hn) (ob:=.var (z.cells.toList.map UZ)) (obj:=.cells z.cells T)
    ⟨z.cells,T,heap_alloc_new w _,by simp,rfl,λj x v hx hv=>by
     simp[hx]at hv;subst hv;exact .dat (Xy.const _)⟩)
   rw[hd]
   refine y.put (XP hn) ?_
   have:=QO.loc (φ:=ext φ d ⟨w.heap.size,1,0,[],0⟩) (I:=Xj C (ext φ d ⟨w.heap.size,1,0,[],0⟩) (w.alloc (.cells z.cells T))) (w:=w.alloc (.cells z.cells T)) d 0 0 _ (XD _ _ _)
   simpa using this
  cases h
 cases h
def Qf.box {T d:Nat}{x:Operand}{v:V}(ho:o.op=.box T x)(hd:o.dst=some d)(hn:B_ d C)(hx:σ.opd x=some v)(h1:v.one=true\/∃cs,v=.agg cs)
  (hf:look σ.hp d=none):Qf P C o σ ((σ.set d (.var v.cells)).put d (.loc d 0 0)):=by
 refine Qf.val λφ a w y=>?_
 have D:=y.opd hx
 obtain⟨hs,hc⟩:=D.cells h1
 refine⟨.pointer (some ⟨w.heap.size,0,none⟩),w.alloc (.cells (a.eval x).cells T),ext φ d ⟨w.heap.size,1,0,[],0⟩,?_,?_⟩
 ·simp[execOp,ho,Instr.box,newVar,newRow]
 have hN:=y.none_of_look hf
 have h:=(y.alloc (cap:=1) (z:=0) hf (C.slot hn) (ob:=.var v.cells) (obj:=.cells (a.eval x).cells T)
  ⟨(a.eval x).cells,T,heap_alloc_new w _,hs,rfl,λj x v hx D=>(hc j x v hx D).mono (y.mono_ext _ hN) (y.imm_alloc d 1 0 _ hN)⟩)
 rw[hd]
 refine h.put (XP hn) ?_
 have:=QO.loc (φ:=ext φ d ⟨w.heap.size,1,0,[],0⟩) (I:=Xj C (ext φ d ⟨w.heap.size,1,0,[],0⟩) (w.alloc (.cells (a.eval x).cells T))) (w:=w.alloc (.cells (a.eval x).cells T)) d 0 0 _ (XD _ _ _)
 simpa using this
def CO {T:Nat}{w:World}{p:Addr}{x:Value}(y:Ea P T=some false)(h:w.cell? p=some x):(Instr.loadAt T (.pointer (some p))).run P w=.ok x w:=by
 simp[Instr.loadAt,Instr.sureAddr,loadVar,Te y,h]
def OE {T n:Nat}{w:World}{p:Addr}(c:Nat->Value)(y:Ea P T=some true)(D:UC P T=some n)(h:∀j,j<n->w.cell? (p.add j)=some (c j)):
  (Instr.loadAt T (.pointer (some p))).run P w=.ok (.agg ((List.range n).map c).toArray) w:=by
 simp only[Instr.loadAt,Instr.sureAddr,loadVar,Xf,Xx,Xl,Te y,if_true,ZE D]
 rw[run_loadCells w p n c h]
 simp
def Qf.load1L {T d b off:Nat}{x:Operand}{y:L_ V}{v:V}(ho:o.op=.load T x)(hd:o.dst=some d)(hn:B_ d C)(hx:σ.opd x=some (.loc b 0 off))
  (hb:look σ.hp b=some (.var y)) (hg:Ea P T=some false) (hv:y[off]? = some v):Qf P C o σ (σ.put d v):=by
 refine Qf.same hd hn λφ a w D=>?_
 obtain⟨B,hB,he⟩:=(D.opd hx).loc_inv
 obtain⟨xs,E,h1,h2,h0,h3⟩:=D.block hB hb
 have h:off<xs.size:=by rw[h2];exact(Xe.1 hv).1
 have hc:w.cell? ⟨B.b,B.off+(0*B.z+off),none⟩=some xs[off]:=by simp[World.cell?,h1,h,h0]
 refine⟨xs[off],?_,h3 off _ v (by simp[h]) hv⟩
 simp only[execOp,ho,he,Xf,CO hg hc,Xl,Xx]
def Qf.loadAL {T d b off n:Nat}{x:Operand}{D vs:L_ V}(ho:o.op=.load T x)(hd:o.dst=some d)(hn:B_ d C)(hx:σ.opd x=some (.loc b 0 off))
  (hb:look σ.hp b=some (.var D)) (hg:Ea P T=some true) (hs:UC P T=some n) (h:Nat.ble (off+n) D.length=true) (hv:(D.drop off).take n=vs):Qf P C o σ (σ.put d (.agg vs)):=by
 refine Qf.same hd hn λφ a w hr=>?_
 have h:=JK h
 obtain⟨B,hB,he⟩:=(hr.opd hx).loc_inv
 obtain⟨xs,E,h1,h2,h0,h3⟩:=hr.block hB hb
 have hc:∀j,j<n->w.cell? ((⟨B.b,B.off+(0*B.z+off),none⟩:Addr).add j)=some (xs.getD (off+j) undef):=by
  intro j hj
  have:off+j<xs.size:=by omega
  simp[Addr.add_lit,World.cell?,h1,Array.getD,this,h0]
 refine⟨.agg ((List.range n).map λj=>xs.getD (off+j) undef).toArray,by simp only[execOp,ho,he,Xf,OE _ hg hs hc,Xl,Xx],.agg _ _ ?_ ?_⟩
 ·subst hv;simp;omega
 intro j y u hy hu
 subst hv
 simp only[UA,Yb,XZ,Xe,Qcl,Qck]at hy
 obtain⟨_,⟨hj,rfl⟩,rfl⟩:=hy
 have hlt:off+j<xs.size:=by omega
 refine h3 (off+j) _ u (by simp[Array.getD,hlt]) ?_
 rwa[Jy,if_pos hj,Gf]at hu
def Yn.cell {I:Nat->Prop}{w:World}{B:Xa}{z:Nat}{rs:L_ (L_ V)}(h:Yn I w B z rs){i off:Nat}{r:L_ V}{v:V}(hi:rs[i]? = some r)(hv:r[off]? = some v):
  ∃y,w.cell? ⟨B.b,B.off+(i*B.z+off),none⟩=some y/\Xy I w y v:=by
 obtain⟨hz,_,_,xs,E,D,h2,h3⟩:=h
 obtain⟨y,hy,hr⟩:=h3 i r hi off v hv
 exact⟨y,by simp[World.cell?,D,hz,hy],hr⟩
def Qf.load1A {T d b i off z:Nat}{x:Operand}{rs:L_ (L_ V)}{r:L_ V}{v:V}(ho:o.op=.load T x)(hd:o.dst=some d)(hn:B_ d C)(hx:σ.opd x=some (.loc b i off))
  (hb:look σ.hp b=some (.arr z rs)) (hg:Ea P T=some false) (hi:rs[i]? = some r) (hv:r[off]? = some v):Qf P C o σ (σ.put d v):=by
 refine Qf.same hd hn λφ a w h=>?_
 obtain⟨B,D,he⟩:=(h.opd hx).loc_inv
 obtain⟨y,hc,hy⟩:=Yn.cell (h.block D hb) hi hv
 exact⟨y,by simp[execOp,ho,he,CO hg hc],.dat hy⟩
def Qf.loadAA {T d b i off z n:Nat}{x:Operand}{rs:L_ (L_ V)}{r vs:L_ V}(ho:o.op=.load T x)(hd:o.dst=some d)(hn:B_ d C)(hx:σ.opd x=some (.loc b i off))
  (hb:look σ.hp b=some (.arr z rs)) (hg:Ea P T=some true) (hs:UC P T=some n) (hi:rs[i]? = some r) (D:Nat.ble (off+n) r.length=true) (hv:(r.drop off).take n=vs):
  Qf P C o σ (σ.put d (.agg vs)):=by
 refine Qf.same hd hn λφ a w hr=>?_
 have D:=JK D
 obtain⟨B,hB,he⟩:=(hr.opd hx).loc_inv
 have hA:=hr.block hB hb
 have key:∀j,j<n->∃y,w.cell? ⟨B.b,B.off+(i*B.z+off)+j,none⟩=some y/\∀v,r[off+j]? = some v->Xy (Xj C φ w) w y v:=by
  intro j h
  have:off+j<r.length:=by omega
  obtain⟨y,hc,hy⟩:=Yn.cell hA hi (QR this)
  exact⟨y,by simpa[Mw] using hc,λv hv=>by rw[QR this]at hv;exact Option.some.inj hv▸hy⟩
 have hc:∀j,j<n->w.cell? ((⟨B.b,B.off+(i*B.z+off),none⟩:Addr).add j)=some ((w.cell? ⟨B.b,B.off+(i*B.z+off)+j,none⟩).getD undef):=by
  intro j h
  obtain⟨y,h1,_⟩:=key j h
  simp[Addr.add_lit,h1]
 refine⟨.agg ((List.range n).map λj=>(w.cell? ⟨B.b,B.off+(i*B.z+off)+j,none⟩).getD undef).toArray,by simp only[execOp,ho,he,Xf,OE _ hg hs hc,Xl,Xx],.agg _ _ ?_ ?_⟩
 ·subst hv;simp;omega
 intro j y u hy hu
 subst hv
 simp only[UA,Yb,XZ,Xe,Qcl,Qck]at hy
 obtain⟨_,⟨h,rfl⟩,rfl⟩:=hy
 obtain⟨y,h1,h2⟩:=key j h
 rw[h1]
 refine .dat (h2 u ?_)
 rw[Jy,if_pos h,Gf]at hu
 exact hu
def Qf.load1R {T d:Nat}{x:Operand}{v:V}{y:L_ V}(ho:o.op=.load T x)(h:o.dst=some d)(hn:B_ d C)(hx:σ.opd x=some (.ro y))
  (hg:Ea P T=some false) (D:y[0]? = some v):Qf P C o σ (σ.put d v):=by
 refine Qf.same h hn λφ a w hr=>?_
 obtain⟨b,off,he,hI,_,c,hc,h⟩:=(hr.opd hx).ro_inv
 have:=hc 0 ((Xe.1 D).1)
 exact⟨c 0,by simp only[execOp,ho,he,Xf,CO hg (by simpa using this),Xl,Xx],.dat (h 0 v D)⟩
def Qf.loadAR {T d n:Nat}{x:Operand}{vs D:L_ V}(ho:o.op=.load T x)(hd:o.dst=some d)(hn:B_ d C)(hx:σ.opd x=some (.ro D))
  (hg:Ea P T=some true) (hs:UC P T=some n) (h:Nat.ble n D.length=true) (hv:D.take n=vs):Qf P C o σ (σ.put d (.agg vs)):=by
 refine Qf.same hd hn λφ a w hr=>?_
 have h:=JK h
 obtain⟨b,off,he,hI,_,c,hc,hd⟩:=(hr.opd hx).ro_inv
 have hc':∀j,j<n->w.cell? ((⟨b,off,none⟩:Addr).add j)=some (c j):=λj hj=>by rw[Addr.add_lit];exact hc j (by omega)
 refine⟨.agg ((List.range n).map c).toArray,by simp only[execOp,ho,he,Xf,OE _ hg hs hc',Xl,Xx],.agg _ _ ?_ ?_⟩
 ·subst hv;simp;omega
 intro j y u hy hu
 subst hv
 simp only[UA,Yb,XZ,Xe,Qcl,Qck]at hy
 obtain⟨_,⟨hj,rfl⟩,rfl⟩:=hy
 refine .dat (hd j u ?_)
 rw[Jy,if_pos hj]at hu
 exact hu
def TY {T n g off:Nat}{w:World}{x:Value}{h:Array Value}{E:TypeId}(hs:UC P T=some n)(D:x.cells.size=n)(hg:w.heap[g]? = some (.cells h E (0,0)))
  (y:off+n<=h.size) (h1:∀u∈x.cells.toList,u.oneCell'=true):
  (Instr.storeAt T (.pointer (some ⟨g,off,none⟩)) x).run P w=.ok () (w.setRow g (h.toList.take off++x.cells.toList++h.toList.drop (off+n)).toArray):=by
 have:=run_storeCells_at P g off E x.cells.toList 0 h w hg (by simpa[D] using y) h1
 simp[Instr.storeAt,Instr.sureAddr,storeVar,ZE hs,D,this]
def Kw (r:L_ V)(off:Nat)(vs:L_ V):L_ V:=r.take off++vs++r.drop (off+vs.length)
def QO.cells_one {φ:Nat->O_ Xa}{I:Nat->Prop}{w:World}{x:Value}{v:V}(h:QO φ I w x v)(hv:v.one=true\/∃cs,v=.agg cs)(h1:v.cells.all V.one=true):
  ∀u∈x.cells.toList,u.oneCell'=true:=by
 intro u hu
 obtain⟨hs,hc⟩:=h.cells hv
 obtain⟨j,hj,rfl⟩:=List.getElem_of_mem hu
 have y:j<v.cells.length:=by rw[<-hs];simpa using hj
 have D:j<x.cells.size:=by simpa using hj
 have h3:=hc j x.cells[j] v.cells[j] (GZ D) (QR y)
 have h4:(v.cells[j]).one=true:=by
  rw[XE]at h1;exact h1 _ (XW _)
 simpa using (h3.oneCell h4).2
def Qf.storeL {T b off n:Nat}{x y:Operand}{cs cs':L_ V}{v:V}(ho:o.op=.store T x y)(hd:o.dst=none)(hx:σ.opd x=some (.loc b 0 off))
  (hb:look σ.hp b=some (.var cs)) (hy:σ.opd y=some v) (h1:v.one=true\/∃cs,v=.agg cs) (hs:UC P T=some n) (hl:v.cells.length=n) (hall:v.cells.all V.one=true)
  (hle:Nat.ble (off+n) cs.length=true) (he:Kw cs off v.cells=cs'):Qf P C o σ (σ.set b (.var cs')):=by
 refine Qf.skp λφ a w hr=>?_
 subst he
 have hle:=JK hle
 obtain⟨B,hB,he⟩:=(hr.opd hx).loc_inv
 obtain⟨xs,E,e1,e2,e0,e3⟩:=hr.block hB hb
 rw[e0]at he
 have hv:=hr.opd hy
 obtain⟨hcs,hc⟩:=hv.cells h1
 have hsz:(a.eval y).cells.size=n:=by rw[hcs,hl]
 have hrun:=TY (off:=off) hs hsz e1 (by omega) (hv.cells_one h1 hall)
 refine⟨w.setRow B.b (xs.toList.take off++(a.eval y).cells.toList++xs.toList.drop (off+n)).toArray,φ,?_,?_⟩
 ·simp only[execOp,ho,he,Xf,Cr,Ej,hrun,Xl,Xx]
 rw[hd]
 have hl1:(xs.toList.take off++(a.eval y).cells.toList++xs.toList.drop (off+n)).length=xs.size:=by simp;omega
 refine hr.write hB rfl rfl rfl (by simp) (λk hk=>setRow_other w B.b k _ hk) ⟨_,E,setRow_heap w B.b xs _ E _ e1,?_,e0,?_⟩
 ·simp only[Ta,hl1];simp[Kw,hl];omega
 have hI:∀k,Xj C φ w k->Xj C φ (w.setRow B.b (xs.toList.take off++(a.eval y).cells.toList++xs.toList.drop (off+n)).toArray) k/\
   (w.setRow B.b (xs.toList.take off++(a.eval y).cells.toList++xs.toList.drop (off+n)).toArray).heap[k]? = w.heap[k]?:=
  λk hk=>⟨⟨by simpa using hk.1,hk.2⟩,setRow_other w B.b k _ λe=>hk.2.2 b B hB (.inl e)⟩
 intro j y' u D hu
 refine QO.mono (λ_ _ h=>h) hI ?_
 simp only[UA,Kw]at D hu
 by_cases hj:j<off
 ·rw[De,YL (by simp;omega),Jy,if_pos hj]at D hu
  exact e3 j y' u (by simpa using D) hu
 by_cases hj2:j<off+n
 ·rw[YL (by simp;omega),Jx (by simp;omega)]at D hu
  have el:off-min off cs.length=0:=by omega
  have el2:off-min off xs.size=0:=by omega
  refine hc (j-off) y' u ?_ ?_
  ·rw[<-D];simp;congr 1;omega
  rw[<-hu];simp;congr 1;omega
 rw[Jx (by simp;omega)]at D hu
 refine e3 j y' u ?_ ?_
 ·rw[<-D];simp;congr 1;omega
 rw[<-hu];simp;congr 1;omega
end
section
variable {P:Program}{C:XA}{σ:St}{o:Oper}
def QjF {i y z j off n:Nat}(h:y≠i)(D:j<z)(hn:off+n<=z):y*z+j<i*z+off\/i*z+off+n<=y*z+j:=by
 rcases Nat.lt_or_gt_of_ne h with h | h
 ·left
  have:(y+1)*z<=i*z:=JA z h
  rw[Jf]at this;omega
 right
 have:(i+1)*z<=y*z:=JA z h
 rw[Jf]at this;omega
def Qf.storeAV {T b i off n z:Nat}{x y:Operand}{rs rs':L_ (L_ V)}{r:L_ V}{v:V}(ho:o.op=.store T x y)(hd:o.dst=none)(hx:σ.opd x=some (.loc b i off))
  (hb:look σ.hp b=some (.arr z rs)) (hi:rs[i]? = some r) (hy:∀φ a w,RR C φ σ a w->QO φ (Xj C φ w) w (a.eval y) v) (h1:v.one=true\/∃cs,v=.agg cs) (hs:UC P T=some n) (hl:v.cells.length=n)
  (hall:v.cells.all V.one=true) (hdat:v.cells.all V.dat=true) (hle:Nat.ble (off+n) z=true) (he:rs.set i (Kw r off v.cells)=rs'):Qf P C o σ (σ.set b (.arr z rs')):=by
 refine Qf.skp λφ a w hr=>?_
 subst he
 have hle:=JK hle
 obtain⟨B,hB,he⟩:=(hr.opd hx).loc_inv
 obtain⟨hz,hrl,hok,xs,E,e1,e2,e3⟩:=hr.block hB hb
 subst hz
 have hv:=hy φ a w hr
 obtain⟨hcs,hc⟩:=hv.cells h1
 have hsz:(a.eval y).cells.size=n:=by rw[hcs,hl]
 have hilt:i<rs.length:=(Xe.1 hi).1
 have hrlen:r.length=B.z:=(hok r (XU hi)).1
 have hbig:B.off+(i*B.z+B.z)<=xs.size:=by
  refine Kj ?_ e2
  have:(i+1)*B.z<=B.cap*B.z:=JA _ (by omega)
  rw[Jf]at this;omega
 have hrun:=TY (off:=B.off+(i*B.z+off)) hs hsz e1 (by omega) (hv.cells_one h1 hall)
 refine⟨w.setRow B.b (xs.toList.take (B.off+(i*B.z+off))++(a.eval y).cells.toList++xs.toList.drop (B.off+(i*B.z+off)+n)).toArray,φ,?_,?_⟩
 ·simp only[execOp,ho,he,Xf,hrun,Xl,Xx]
 rw[hd]
 have hl1:(xs.toList.take (B.off+(i*B.z+off))++(a.eval y).cells.toList++xs.toList.drop (B.off+(i*B.z+off)+n)).length=xs.size:=by simp;omega
 refine hr.write hB rfl rfl rfl (by simp) (λk hk=>setRow_other w B.b k _ hk) ⟨rfl,by simpa using hrl,?_,_,E,setRow_heap w B.b xs _ E _ e1,?_,?_⟩
 ·intro r' hr'
  rcases ZB hr' with h | h
  ·exact hok r' h
  subst h
  refine⟨by simp[Kw,hl];omega,λu D=>?_⟩
  simp only[Kw,Ep]at D
  rcases D with(D | D) | D
  ·exact(hok r (XU hi)).2 u (Ai D)
  ·rw[XE]at hall;exact hall u D
  exact(hok r (XU hi)).2 u (OC D)
 ·simp only[Ta,hl1];exact e2
 have hI:∀k,Xj C φ w k->Xj C φ (w.setRow B.b (xs.toList.take (B.off+(i*B.z+off))++(a.eval y).cells.toList++xs.toList.drop (B.off+(i*B.z+off)+n)).toArray) k/\
   (w.setRow B.b (xs.toList.take (B.off+(i*B.z+off))++(a.eval y).cells.toList++xs.toList.drop (B.off+(i*B.z+off)+n)).toArray).heap[k]? = w.heap[k]?:=
  λk hk=>⟨⟨by simpa using hk.1,hk.2⟩,setRow_other w B.b k _ λe=>hk.2.2 b B hB (.inl e)⟩
 have old:∀(i':Nat) r',rs[i']? = some r'->∀(j:Nat) u,r'[j]? = some u->(i'*B.z+j<i*B.z+off\/i*B.z+off+n<=i'*B.z+j)->
   ∃y',(xs.toList.take (B.off+(i*B.z+off))++(a.eval y).cells.toList++xs.toList.drop (B.off+(i*B.z+off)+n)).toArray[B.off+(i'*B.z+j)]? = some y'/\
    Xy (Xj C φ (w.setRow B.b (xs.toList.take (B.off+(i*B.z+off))++(a.eval y).cells.toList++xs.toList.drop (B.off+(i*B.z+off)+n)).toArray))
     (w.setRow B.b (xs.toList.take (B.off+(i*B.z+off))++(a.eval y).cells.toList++xs.toList.drop (B.off+(i*B.z+off)+n)).toArray) y' u:=by
  intro i' r' hi' j u D hout
  obtain⟨y',h1',h2'⟩:=e3 i' r' hi' j u D
  refine⟨y',?_,h2'.mono hI⟩
  rw[UA]
  rcases hout with hout | hout
  ·rw[De,YL (by simp;omega),Jy,if_pos (by omega)];simpa using h1'
  have hlt:B.off+(i'*B.z+j)<xs.size:=(Ud.1 h1').1
  rw[Jx (by simp;omega),Gf]
  rw[<-h1'];simp;congr 1;omega
 intro i' r' hi' j u D
 by_cases e:i'=i
 ·subst e
  rw[Mt (by omega)]at hi'
  cases hi'
  by_cases hj:j<off
  ·have hu':r[j]? = some u:=by
    rw[Kw,De,YL (by simp;omega),Jy,if_pos hj]at D;exact D
   exact old i' r hi j u hu' (.inl (by omega))
  by_cases hj2:j<off+n
  ·have hu':v.cells[j-off]? = some u:=by
    rw[Kw,YL (by simp;omega),Jx (by simp;omega)]at D
    rw[<-D];congr 1;simp;omega
   have hlt:j-off<(a.eval y).cells.size:=by omega
   have hD:=(hc (j-off) _ u (GZ hlt) hu').toDat (by
    rw[XE]at hdat;exact hdat u (XU hu'))
   refine⟨(a.eval y).cells[j-off],?_,hD.mono hI⟩
   rw[UA,YL (by simp;omega),Jx (by simp;omega)]
   have:B.off+(i'*B.z+j)-(xs.toList.take (B.off+(i'*B.z+off))).length=j-off:=by simp;omega
   rw[this];simp[hlt]
  have hu':r[j]? = some u:=by
   rw[Kw,Jx (by simp;omega),Gf]at D
   rw[<-D];congr 1;simp;omega
  exact old i' r hi j u hu' (.inr (by omega))
 have hi'':rs[i']? = some r':=by rwa[Ms (Ne.symm e)]at hi'
 have hjz:j<B.z:=by
  have:=(Xe.1 D).1
  rwa[(hok r' (XU hi'')).1]at this
 exact old i' r' hi'' j u D (QjF e hjz hle)
def Qf.storeA {T b i off n z:Nat}{x y:Operand}{rs rs':L_ (L_ V)}{r:L_ V}{v:V}(ho:o.op=.store T x y)(hd:o.dst=none)(hx:σ.opd x=some (.loc b i off))
  (hb:look σ.hp b=some (.arr z rs)) (hi:rs[i]? = some r) (hy:σ.opd y=some v) (h1:v.one=true\/∃cs,v=.agg cs) (hs:UC P T=some n) (hl:v.cells.length=n)
  (h:v.cells.all V.one=true) (D:v.cells.all V.dat=true) (hle:Nat.ble (off+n) z=true) (he:rs.set i (Kw r off v.cells)=rs'):Qf P C o σ (σ.set b (.arr z rs')):=
 Qf.storeAV ho hd hx hb hi (λφ a w hr=>hr.opd hy) h1 hs hl h D hle he
def TZ {T f off:Nat}{w:World}{p:Addr}(h:FV P T f=some off):(Instr.fieldAt T (.pointer (some p)) f).run P w=.ok (.pointer (some (p.add off))) w:=by
 unfold FV at h
 split at h
 ·rename_i fs D
  split at h
  ·rename_i fl y
   split at h
   ·rename_i i hi
    split at h
    ·cases h
    rename_i hne
    cases h
    simp[Instr.fieldAt,run_underlying D,y,Instr.sureAddr,fieldPlace,sizeOf,typeInfo,hi,hne]
   cases h
  cases h
 cases h
def Qf.fieldL {T f d b i k off:Nat}{x:Operand}(ho:o.op=.fieldAddr T x f)(y:o.dst=some d)(hn:B_ d C)(hx:σ.opd x=some (.loc b i k))
  (hf:FV P T f=some off):Qf P C o σ (σ.put d (.loc b i (k+off))):=by
 refine Qf.same y hn λφ a w hr=>?_
 obtain⟨B,h,D⟩:=(hr.opd hx).loc_inv
 refine⟨.pointer (some ⟨B.b,B.off+(i*B.z+(k+off)),none⟩),?_,.loc b i (k+off) B h⟩
 simp only[execOp,ho,D,Xf,TZ hf,Xl,Xx,Addr.add_lit,Mw]
def Xy.ro_drop {I:Nat->Prop}{w:World}{b off:Nat}{h:L_ V}{c:Nat->Value}(k:Nat)(hI:I b)(D:∀v∈h,v.one=true)(hc:∀j,j<h.length->w.cell? ⟨b,off+j,none⟩=some (c j))
  (hd:∀(j:Nat) v,h[j]? = some v->Xy I w (c j) v):Xy I w (.pointer (some ⟨b,off+k,none⟩)) (.ro (h.drop k)):=by
 refine .ro b (off+k) _ (λj=>c (k+j)) hI (λv y=>D v (OC y)) (λj hj=>?_) λj v y=>hd (k+j) v (by rwa[Gf]at y)
 have:=hc (k+j) (by simp at hj;omega)
 rwa[<-Mw]at this
def Qf.fieldR {T f d off:Nat}{x:Operand}{D h:L_ V}(ho:o.op=.fieldAddr T x f)(hd:o.dst=some d)(hn:B_ d C)(hx:σ.opd x=some (.ro D))
  (hf:FV P T f=some off) (y:D.drop off=h):Qf P C o σ (σ.put d (.ro h)):=by
 refine Qf.same hd hn λφ a w hr=>?_
 subst y
 obtain⟨b,k,y,hI,h1,c,hc,hD⟩:=(hr.opd hx).ro_inv
 refine⟨.pointer (some ⟨b,k+off,none⟩),?_,.dat (Xy.ro_drop off hI h1 hc hD)⟩
 simp only[execOp,ho,y,Xf,TZ hf,Xl,Xx,Addr.add_lit]
def KT {T e z by_:Nat}(h:Yo P T=some (e,z,by_)):P.underlying T=some (.slice e)/\∃i,P.info? e=some i/\i.size=z/\i.bytes=by_:=by
 unfold Yo at h
 split at h
 ·rename_i e' y
  split at h
  ·rename_i i D;cases h;exact⟨y,i,D,rfl,rfl⟩
  cases h
 cases h
def Qgm {T n z:Nat}(h:Td P T=some (n,z)):∃e,P.underlying T=some (.array n e)/\∃i,P.info? e=some i/\i.size=z:=by
 unfold Td at h
 split at h
 ·rename_i n' e' y
  split at h
  ·rename_i i D;cases h;exact⟨e',y,i,D,rfl⟩
  cases h
 cases h
def Ry {T e z by_ h cap:Nat}{w:World}{p:Addr}{k:IntKind}{j:Int}(hT:Yo P T=some (e,z,by_))(y:0<=j)(D:j<h):
  (Instr.indexAt T (.slice (some p) h cap) (.int k j)).run P w=.ok (.pointer (some (p.add (j.toNat*z)))) w:=by
 obtain⟨hu,i,hi,rfl,rfl⟩:=KT hT
 simp[Instr.indexAt,asIntOf,run_underlying hu,sizeOf,typeInfo,hi,y,D]
def Qf.idxS {T d e z by_:Nat}{x y:Operand}{rows:L_ (L_ V)}{r:L_ V}{k:IntKind}{j:Int}(ho:o.op=.indexAddr T x y)(hd:o.dst=some d)(hn:B_ d C)
  (hx:σ.opd x=some (.sl z rows)) (hy:σ.opd y=some (.i k j)) (hT:Yo P T=some (e,z,by_)) (h0:0<=j) (h:rows[j.toNat]? = some r):Qf P C o σ (σ.put d (.ro r)):=by
 refine Qf.same hd hn λφ a w hr=>?_
 have hlt:j.toNat<rows.length:=(Xe.1 h).1
 rcases(hr.opd hx).sl_inv with⟨_,_,_,rfl⟩|⟨b,off,cap,he,hI,hcap,hok,c,hc,hD⟩
 ·simp at h
 have D:=hok r (XU h)
 have hbig:j.toNat*z+z<=rows.length*z:=by
  have:(j.toNat+1)*z<=rows.length*z:=JA _ hlt
  rw[Jf]at this;omega
 refine⟨.pointer (some ⟨b,off+j.toNat*z,none⟩),?_,.dat (.ro b _ r (λm=>c (j.toNat*z+m)) hI D.2 (λm hm=>?_) (λm v hv=>hD _ r h m v hv))⟩
 ·simp only[execOp,ho,he,(hr.opd hy).i_inv,Xf,Ry hT h0 (show j<(rows.length:Int) by omega),Xl,Xx,Addr.add_lit]
 have:=hc (j.toNat*z+m) (by rw[D.1]at hm;omega)
 rwa[<-Mw]at this
def Qf.idxO {T d e z by_ b n:Nat}{x y:Operand}{rs:L_ (L_ V)}{k:IntKind}{j:Int}(ho:o.op=.indexAddr T x y)(hd:o.dst=some d)(hn:B_ d C)
  (hx:σ.opd x=some (.own b n)) (hy:σ.opd y=some (.i k j)) (hT:Yo P T=some (e,z,by_)) (hb:look σ.hp b=some (.arr z rs)) (h0:0<=j) (h1:j<n):
  Qf P C o σ (σ.put d (.loc b j.toNat 0)):=by
 refine Qf.same hd hn λφ a w h=>?_
 rcases(h.opd hx).own_inv with⟨_,rfl⟩|⟨B,D,hcap,he⟩
 ·omega
 have hz:B.z=z:=(h.block D hb).1
 refine⟨.pointer (some ⟨B.b,B.off+(j.toNat*B.z+0),none⟩),?_,.loc b j.toNat 0 B D⟩
 simp only[execOp,ho,he,(h.opd hy).i_inv,Xf,Ry hT h0 h1,Xl,Xx,Addr.add_lit,hz,Ej,OD]
def Qbe {T z n:Nat}{w:World}{p:Addr}{k:IntKind}{j:Int}(D:Td P T=some (n,z))(h:0<=j)(y:j<n):
  (Instr.indexAt T (.pointer (some p)) (.int k j)).run P w=.ok (.pointer (some (p.add (j.toNat*z)))) w:=by
 obtain⟨e,hu,i,hi,rfl⟩:=Qgm D
 simp[Instr.indexAt,asIntOf,run_underlying hu,sizeOf,typeInfo,hi,h,y,Instr.sureAddr]
def Qf.idxAL {T d z n b i m off:Nat}{x y:Operand}{k:IntKind}{j:Int}(ho:o.op=.indexAddr T x y)(hd:o.dst=some d)(hn:B_ d C)
  (hx:σ.opd x=some (.loc b i m)) (hy:σ.opd y=some (.i k j)) (hT:Td P T=some (n,z)) (h0:0<=j) (h1:j<n) (h:m+j.toNat*z=off):Qf P C o σ (σ.put d (.loc b i off)):=by
 refine Qf.same hd hn λφ a w D=>?_
 subst h
 obtain⟨B,hB,he⟩:=(D.opd hx).loc_inv
 refine⟨.pointer (some ⟨B.b,B.off+(i*B.z+(m+j.toNat*z)),none⟩),?_,.loc b i _ B hB⟩
 simp only[execOp,ho,he,(D.opd hy).i_inv,Xf,Qbe hT h0 h1,Xl,Xx,Addr.add_lit,Mw]
def Qf.idxAR {T d z n:Nat}{x y:Operand}{k:IntKind}{j:Int}{cs h:L_ V}(ho:o.op=.indexAddr T x y)(hd:o.dst=some d)(hn:B_ d C)
  (hx:σ.opd x=some (.ro cs)) (hy:σ.opd y=some (.i k j)) (hT:Td P T=some (n,z)) (h0:0<=j) (h1:j<n) (he:cs.drop (j.toNat*z)=h):Qf P C o σ (σ.put d (.ro h)):=by
 refine Qf.same hd hn λφ a w hr=>?_
 subst he
 obtain⟨b,m,he,hI,D,c,hc,hD⟩:=(hr.opd hx).ro_inv
 refine⟨.pointer (some ⟨b,m+j.toNat*z,none⟩),?_,.dat (Xy.ro_drop _ hI D hc hD)⟩
 simp only[execOp,ho,he,(hr.opd hy).i_inv,Xf,Qbe hT h0 h1,Xl,Xx,Addr.add_lit]
def Qbf (P:Program)(t:TypeId):Bool:=match P.underlying t with | some .string=>true | _=>false
def Qdm {T:Nat}(h:Qbf P T=true):P.underlying T=some .string:=by
 unfold Qbf at h
 split at h
 ·assumption
 cases h
def Qf.idxStr {T d:Nat}{x y:Operand}{k:IntKind}{j:Int}{s:ByteArray}{c:UInt8}(ho:o.op=.index T x y)(hd:o.dst=some d)(hn:B_ d C)
  (hx:σ.opd x=some (.s s)) (hy:σ.opd y=some (.i k j)) (hT:Qbf P T=true) (D:0<=j) (hc:s[j.toNat]? = some c):Qf P C o σ (σ.put d (.i .u8 c.toNat)):=by
 refine Qf.same hd hn λφ a w h=>?_
 refine⟨.int .u8 c.toNat,?_,.dat (.i _ _)⟩
 simp[execOp,ho,(h.opd hx).s_inv,(h.opd hy).i_inv,Instr.index,asIntOf,run_underlying (Qdm hT),D,hc]
def Qf.lenS {T d e z z' by_:Nat}{x:Operand}{rows:L_ (L_ V)}(ho:o.op=.call { callee:=.builtin .len,args:=#[x],argTypes:=#[T] })(D:o.dst=some d)(hn:B_ d C)
  (hx:σ.opd x=some (.sl z rows)) (y:Yo P T=some (e,z',by_)):Qf P C o σ (σ.put d (.i .i64 rows.length)):=by
 refine Qf.same D hn λφ a w hr=>?_
 obtain⟨hu,_⟩:=KT y
 refine⟨.int .i64 rows.length,?_,.dat (.i _ _)⟩
 rcases(hr.opd hx).sl_inv with⟨p,cap,h,rfl⟩|⟨b,off,cap,h,_⟩ <;>
  simp[execOp,ho,h,resolve,invoke,builtin,Builtin.len_,run_underlying hu,goInt]
def Qf.lenO {T d e z' by_ b n:Nat}{x:Operand}(ho:o.op=.call { callee:=.builtin .len,args:=#[x],argTypes:=#[T] })(D:o.dst=some d)(hn:B_ d C)
  (hx:σ.opd x=some (.own b n)) (y:Yo P T=some (e,z',by_)):Qf P C o σ (σ.put d (.i .i64 n)):=by
 refine Qf.same D hn λφ a w hr=>?_
 obtain⟨hu,_⟩:=KT y
 refine⟨.int .i64 n,?_,.dat (.i _ _)⟩
 rcases(hr.opd hx).own_inv with⟨h,rfl⟩|⟨B,_,_,h⟩ <;>
  simp[execOp,ho,h,resolve,invoke,builtin,Builtin.len_,run_underlying hu,goInt]
def Qf.lenN {T d e z' by_:Nat}{x:Operand}(ho:o.op=.call { callee:=.builtin .len,args:=#[x],argTypes:=#[T] })(y:o.dst=some d)(D:B_ d C)
  (hx:σ.opd x=some (.lit (.slice none 0 0))) (h:Yo P T=some (e,z',by_)):Qf P C o σ (σ.put d (.i .i64 0)):=by
 refine Qf.same y D λφ a w hr=>?_
 obtain⟨hu,_⟩:=KT h
 refine⟨.int .i64 0,?_,.dat (.i _ _)⟩
 simp[execOp,ho,(hr.opd hx).lit_inv,resolve,invoke,builtin,Builtin.len_,run_underlying hu,goInt]
def Qf.lenStr {T d:Nat}{x:Operand}{s:ByteArray}(ho:o.op=.call { callee:=.builtin .len,args:=#[x],argTypes:=#[T] })(y:o.dst=some d)(D:B_ d C)
  (hx:σ.opd x=some (.s s)) (h:Qbf P T=true):Qf P C o σ (σ.put d (.i .i64 s.size)):=by
 refine Qf.same y D λφ a w hr=>?_
 refine⟨.int .i64 s.size,?_,.dat (.i _ _)⟩
 simp[execOp,ho,(hr.opd hx).s_inv,resolve,invoke,builtin,Builtin.len_,run_underlying (Qdm h),goInt]
end
section
variable {P:Program}{C:XA}{σ:St}{o:Oper}
def BS {T:Nat}{zs:L_ V}(h:XX P T=some zs):∃i z,P.info? T=some i/\i.zero=some z/\z.cells.toList.map UZ=zs:=by
 unfold XX at h
 split at h
 ·rename_i i y
  split at h
  ·rename_i z D;cases h;exact⟨i,z,y,D,rfl⟩
  cases h
 cases h
def QgK (z:Array Value)(n k:Nat)(h:k<n):(madeCells z n)[k]? = some (z[k % z.size]!):=by
 simp[madeCells,h]
def Qf.make {T d e z by_:Nat}{x y:Operand}{zs:L_ V}{k k':IntKind}{l c:Int}(ho:o.op=.makeSlice T x y)(hd:o.dst=some d)(hn:B_ d C)
  (hx:σ.opd x=some (.i k l)) (hy:σ.opd y=some (.i k' c)) (hT:Yo P T=some (e,z,by_)) (hz:XX P e=some zs) (hzl:zs.length=z) (hz0:z≠0) (hone:zs.all V.one=true)
  (h0:0<=l) (hlc:l<=c) (hby:by_<=32768) (hc:c<=4294967296) (hf:look σ.hp d=none):
  Qf P C o σ ((σ.set d (.arr z (List.replicate l.toNat zs))).put d (.own d l.toNat)):=by
 refine Qf.val λφ a w hr=>?_
 obtain⟨hu,i,hi,hiz,hib⟩:=KT hT
 obtain⟨i',zv,hi',hz',D⟩:=BS hz
 rw[hi]at hi';cases hi'
 have hzs:zv.cells.size=z:=by rw[<-hzl,<-D];simp
 have h:(i.bytes:Int)*c<=281474976710656:=by
  rw[hib]
  have h1:(by_:Int)*c<=32768*c:=Int.mul_le_mul_of_nonneg_right (by omega) (by omega)
  omega
 have hrun:=run_make (P:=P) w T e i zv hu hi hz' k k' l c h0 hlc h (by omega)
 rw[hiz]at hrun
 have hN:=hr.none_of_look hf
 refine⟨.slice (some ⟨w.heap.size,0,none⟩) l.toNat c.toNat,w.alloc (.cells (madeCells zv.cells (c.toNat*z)) e),ext φ d ⟨w.heap.size,c.toNat,z,[],0⟩,?_,?_⟩
 ·simp only[execOp,ho,(hr.opd hx).i_inv,(hr.opd hy).i_inv,Xf,hrun,Xl,Xx]
 have hle:l.toNat<=c.toNat:=by omega
 have hnew:=hr.alloc (cap:=c.toNat) (z:=z) hf (C.slot hn) (ob:=.arr z (List.replicate l.toNat zs)) (obj:=.cells (madeCells zv.cells (c.toNat*z)) e)
  (Yn.mk0 rfl rfl (by simpa using hle) (λr hr'=>by
   obtain⟨_,rfl⟩:=List.mem_replicate.1 hr'
   exact⟨hzl,λv hv=>by rw[XE]at hone;exact hone v hv⟩) _ e (heap_alloc_new w _) (size_madeCells _ _) λm r hm j v hv=>by
   obtain⟨hm1,rfl⟩:m<l.toNat/\zs=r:=by
    have:=Xe.1 hm
    obtain⟨h1,h2⟩:=this
    simp at h1 h2
    exact⟨by omega,h2⟩
   have hj:j<z:=by rw[<-hzl];exact(Xe.1 hv).1
   have hlt:m*z+j<c.toNat*z:=by
    have:(m+1)*z<=c.toNat*z:=JA _ (by omega)
    rw[Jf]at this;omega
   refine⟨_,QgK _ _ _ hlt,?_⟩
   have hmod:(m*z+j) % zv.cells.size=j:=by rw[hzs,Nat.mul_comm,Nat.mul_add_mod,Nat.mod_eq_of_lt hj]
   rw[hmod]
   have hjs:j<zv.cells.size:=by omega
   have:v=UZ zv.cells[j]:=by
    rw[<-D]at hv
    simp[hjs]at hv
    exact hv.symm
   subst this
   rw[getElem!_pos zv.cells j hjs]
   exact Xy.const _)
 rw[hd]
 refine hnew.put (XP hn) ?_
 exact .own d l.toNat ⟨w.heap.size,c.toNat,z,[],0⟩ (XD _ _ _) hle
def Es (h:Nat->O_ (Nat×Nat))(y:L_ V):S_->O_ (L_ V)
 | []=>some y
 | (i,v)::rest=>match h i with
  | none=>none
  | some (off,n)=>bif Nat.beq v.cells.length n&&Nat.ble (off+n) y.length then Es h (Kw y off v.cells) rest else none
def V.isV : V->Bool
 | .agg _=>true
 | v=>v.one
def V.isV_or {v:V}(h:v.isV=true):v.one=true\/∃y,v=.agg y:=by
 cases v<;>first | exact .inl h | exact .inr ⟨_,rfl⟩
def QjG (off:Nat):∀(vs:L_ Value) (k:Nat) (y:Array Value),off+k+vs.length<=y.size->
  ((vs.zipIdx k).foldl (λ(y:Array Value) (p:Value×Nat)=>y.setIfInBounds (off+p.2) p.1) y).toList=y.toList.take (off+k)++vs++y.toList.drop (off+k+vs.length):=by
 intro vs
 induction vs with
 | nil=>intro k y _;simp
 | cons v vs ih=>
  intro k y h
  simp only[DG]at h
  rw[List.zipIdx_cons,List.foldl_cons,ih (k+1) _ (by simp;omega)]
  have D:off+k<y.toList.length:=by simp;omega
  simp only[Array.toList_setIfInBounds]
  rw[show off+(k+1)=off+k+1 by omega]
  rw[List.take_set,List.drop_set]
  have h2:off+k<(y.toList.take (off+k+1)).length:=by simp;omega
  rw[if_pos (by omega)]
  rw[List.take_succ_eq_append_getElem D,List.set_append_right _ _ (by simp;omega),show off+k-(List.take (off+k) y.toList).length=0 by simp;omega]
  simp only[List.set_cons_zero,De,List.cons_append,PT,DG]
  congr 3
  congr 1
  omega
def QkE {φ:Nat->O_ Xa}{I:Nat->Prop}{w:World}{place:Nat->O_ (Nat×Nat)}:∀(ps:L_ (Nat×Value)) (qs:S_) (xs:Array Value) (cs cs':L_ V),
  ps.length=qs.length->(∀(j:Nat) p q,ps[j]? = some p->qs[j]? = some q->p.1=q.1/\q.2.isV=true/\QO φ I w p.2 q.2)->
  xs.size=cs.length->(∀(j:Nat) x v,xs[j]? = some x->cs[j]? = some v->QO φ I w x v)->Es place cs qs=some cs'->
  ∃xs',Instr.fill place xs ps=some xs'/\xs'.size=cs'.length/\∀(j:Nat) x v,xs'[j]? = some x->cs'[j]? = some v->QO φ I w x v:=by
 intro ps
 induction ps with
 | nil=>
  intro qs xs cs cs' hl _ hs hr hf
  cases qs with
  | cons=>simp at hl
  | nil=>simp only[Es,Option.some.injEq]at hf;subst hf;exact⟨xs,rfl,hs,hr⟩
 | cons p ps ih=>
  intro qs xs cs cs' hl hp hs hr hf
  cases qs with
  | nil=>simp at hl
  | cons q qs=>
   obtain⟨i,x⟩:=p
   obtain⟨i',v⟩:=q
   obtain⟨h1,h2,h3⟩:=hp 0 (i,x) (i',v) rfl rfl
   dsimp only at h1 h2 h3
   subst h1
   simp only[Es]at hf
   cases hpl:place i with
   | none=>rw[hpl]at hf;cases hf
   | some on=>
    obtain⟨off,n⟩:=on
    rw[hpl]at hf
    dsimp only at hf
    cases hb:(Nat.beq v.cells.length n&&Nat.ble (off+n) cs.length)with
    | false=>rw[hb]at hf;cases hf
    | true=>
     rw[hb]at hf
     rw[QL]at hb
     have hb1:=YE hb.1
     have hb2:=JK hb.2
     obtain⟨hcs,hc⟩:=h3.cells (V.isV_or h2)
     have h:=QjG off x.cells.toList 0 xs (by simp;omega)
     simp only[OD]at h
     simp only[Instr.fill,hpl]
     rw[if_neg (by simp;omega)]
     refine ih qs _ _ cs' (by simpa using hl) (λj p q h1 h2=>hp (j+1) p q h1 h2) ?_ ?_ hf
     ·have:=congrArg List.length h
      simp only[Array.length_toList,<-Array.foldl_toList,Array.toList_zipIdx]at this ⊢
      rw[this]
      simp[Kw];omega
     intro j y u hy hu
     have D:(xs.toList.take off++x.cells.toList++xs.toList.drop (off+x.cells.toList.length))[j]? = some y:=by
      rw[<-h,<-hy]
      simp only[<-Array.foldl_toList,Array.toList_zipIdx,TX]
     rw[Kw]at hu
     simp only[Array.length_toList]at D
     by_cases hj:j<off
     ·rw[De,YL (by simp;omega),Jy,if_pos hj]at D hu
      exact hr j y u (by simpa using D) hu
     by_cases hj2:j<off+n
     ·rw[YL (by simp;omega),Jx (by simp;omega)]at D hu
      refine hc (j-off) y u ?_ ?_
      ·rw[<-D];simp;congr 1;omega
      rw[<-hu];simp;congr 1;omega
     rw[Jx (by simp;omega)]at D hu
     refine hr j y u ?_ ?_
     ·rw[<-D];simp;congr 1;omega
     rw[<-hu];simp;congr 1;omega
def ZG (P:Program)(T:TypeId):O_ (L_ (Nat×Nat)):=
 match P.underlying T with
 | some (.struct fs)=>fs.toList.mapM λf=>match P.info? f.type with
  | some i=>some (f.offset,i.size)
  | none=>none
 | _=>none
def QiQ : ∀(fs:L_ Field) (y:L_ (Nat×Nat)) (w:World),(fs.mapM λf=>match P.info? f.type with | some i=>some (f.offset,i.size) | none=>none)=some y->
  (fs.mapM λf=>do pure (f.offset,<-sizeOf f.type):Sem (L_ (Nat×Nat))).run P w=.ok y w:=by
 intro fs
 induction fs with
 | nil=>intro y w h;simp at h;subst h;simp
 | cons f fs ih=>
  intro y w h
  rw[List.mapM_cons]at h
  cases D:P.info? f.type with
  | none=>simp[D]at h
  | some i=>
   simp only[D,Option.bind_eq_bind,Qc,My,Option.pure_def,Option.some.injEq]at h
   obtain⟨ps',h1,rfl⟩:=h
   have:=ih ps' w h1
   simp only[List.mapM_cons,Xf,sizeOf,typeInfo,run_program,Xl,D,Xx]at this ⊢
   rw[this]
   rfl
def St.opds (σ:St):L_ (Nat×Operand)->O_ S_
 | []=>some []
 | (i,x)::r=>match σ.opd x,σ.opds r with
  | some v,some vs=>some ((i,v)::vs)
  | _,_=>none
def RR.opds {φ:Nat->O_ Xa}{a:Act}{w:World}(h:RR C φ σ a w):∀(ps:L_ (Nat×Operand)) (qs:S_),σ.opds ps=some qs->
  ps.length=qs.length/\∀(j:Nat) p q,(ps.map λp=>(p.1,a.eval p.2))[j]? = some p->qs[j]? = some q->p.1=q.1/\QO φ (Xj C φ w) w p.2 q.2:=by
 intro ps
 induction ps with
 | nil=>intro qs y;simp only[St.opds,Option.some.injEq]at y;subst y;simp
 | cons p ps ih=>
  intro qs y
  obtain⟨i,x⟩:=p
  simp only[St.opds]at y
  split at y
  ·rename_i v vs hv hvs
   cases y
   obtain⟨h1,h2⟩:=ih vs hvs
   refine⟨by simp[h1],λj p q hp D=>?_⟩
   cases j with
   | zero=>simp at hp D;subst hp;subst D;exact⟨rfl,h.opd hv⟩
   | succ j=>exact h2 j p q hp D
  cases y
def RR.fill {φ:Nat->O_ Xa}{a:Act}{w:World}(hr:RR C φ σ a w){h:Nat->O_ (Nat×Nat)}{ps:L_ (Nat×Operand)}{qs:S_}{z:Array Value}{vs:L_ V}
  (hq:σ.opds ps=some qs) (hv:qs.all (λq=>q.2.isV)=true) (hf:Es h (z.toList.map UZ) qs=some vs):
  ∃y,Instr.fill h z (ps.map λp=>(p.1,a.eval p.2))=some y/\y.size=vs.length/\∀(j:Nat) x v,y[j]? = some x->vs[j]? = some v->QO φ (Xj C φ w) w x v:=by
 obtain⟨h1,h2⟩:=hr.opds ps qs hq
 refine QkE _ qs z _ vs (by simpa using h1) (λj p q hp D=>?_) (by simp) (λj x v hx hv'=>?_) hf
 ·obtain⟨h3,h4⟩:=h2 j p q hp D
  exact⟨h3,by rw[XE]at hv;exact hv q (XU D),h4⟩
 simp[hx]at hv';subst hv';exact .dat (Xy.const _)
def Qf.build {T d:Nat}{h:Array (Nat×Operand)}{D:L_ (Nat×Nat)}{zs vs:L_ V}{qs:S_}(ho:o.op=.build T h)(hd:o.dst=some d)(hn:B_ d C)
  (hz:XX P T=some zs) (y:ZG P T=some D) (hq:σ.opds h.toList=some qs) (hv:qs.all (λq=>q.2.isV)=true)
  (hf:Es (D[·]?) zs qs=some vs):Qf P C o σ (σ.put d (.agg vs)):=by
 refine Qf.same hd hn λφ a w hr=>?_
 obtain⟨i,z,hi,hz',rfl⟩:=BS hz
 unfold ZG at y
 split at y
 ·rename_i fs hfs
  have hrun:=QiQ (P:=P) fs.toList D w y
  obtain⟨xs',h1,h2,h3⟩:=hr.fill hq hv hf
  refine⟨.agg xs',?_,.agg _ _ h2 h3⟩
  have hm:(fs.mapM λf=>do pure (f.offset,<-sizeOf f.type):Sem (Array (Nat×Nat))).run P w=.ok D.toArray w:=by
   rw[Array.mapM_eq_mapM_toList,Sem.run_map,hrun];rfl
  have e:(λx:Nat=>D.toArray[x]?)=λx:Nat=>D[x]? := by funext x;simp
  have e2:(h.map λp=>(p.1,a.eval p.2)).toList=h.toList.map λp=>(p.1,a.eval p.2):=by simp
  simp only[execOp,ho,Instr.build,Xf,zeroValue,typeInfo,run_program,Xl,hi,hz',Xx,run_underlying hfs,hm,e,e2,h1]
 cases y
def Qf.buildA {T d n z:Nat}{h:Array (Nat×Operand)}{zs vs:L_ V}{D:S_}(ho:o.op=.build T h)(hd:o.dst=some d)(hn:B_ d C)
  (hz:XX P T=some zs) (hT:Td P T=some (n,z)) (hq:σ.opds h.toList=some D) (hv:D.all (λq=>q.2.isV)=true)
  (hf:Es (λi=>some (i*z,z)) zs D=some vs):Qf P C o σ (σ.put d (.agg vs)):=by
 refine Qf.same hd hn λφ a w hr=>?_
 obtain⟨i,zv,hi,y,rfl⟩:=BS hz
 obtain⟨e,hu,j,hj,rfl⟩:=Qgm hT
 obtain⟨xs',h1,h2,h3⟩:=hr.fill hq hv hf
 refine⟨.agg xs',?_,.agg _ _ h2 h3⟩
 have e2:(h.map λp=>(p.1,a.eval p.2)).toList=h.toList.map λp=>(p.1,a.eval p.2):=by simp
 simp only[execOp,ho,Instr.build,Xf,zeroValue,typeInfo,run_program,Xl,hi,y,Xx,run_underlying hu,sizeOf,hj,e2,h1]
def Cs (z:Nat):Nat->L_ V->L_ (L_ V)
 | 0,_=>[]
 | n+1,h=>h.take z::Cs z n (h.drop z)
def Aa (z n:Nat)(h:L_ V):(Cs z n h).length=n:=by
 induction n generalizing h with
 | zero=>rfl
 | succ n y=>simp[Cs,y]
def PW (z:Nat):∀(n:Nat) (y:L_ V) (i:Nat),i<n->(Cs z n y)[i]? = some ((y.drop (i*z)).take z):=by
 intro n
 induction n with
 | zero=>intro y i h;omega
 | succ n D=>
  intro y i h
  cases i with
  | zero=>simp[Cs]
  | succ i=>simp only[Cs,Qcj];rw[D _ i (by omega),List.drop_drop,Jf];congr 3;omega
def ZH (zv:Array Value)(n z:Nat)(y:zv.size=z)(D:z≠0):((Array.range (n*z)).map (zv[· % zv.size]!)).toList.map UZ=((List.range (n*z)).map λk=>(zv.toList.map UZ).getD (k % z) .J):=by
 simp only[Array.toList_map,Array.toList_range,OB]
 apply OA
 intro k hk
 have h:k % zv.size<zv.size:=Nat.mod_lt _ (by omega)
 simp only[Function.comp,<-y]
 rw[getElem!_pos zv (k % zv.size) h]
 simp[h]
def Qf.buildSlice {T d e z by_ n:Nat}{y:Array (Nat×Operand)}{zs vs:L_ V}{qs:S_}{rs:L_ (L_ V)}(ho:o.op=.buildSlice T n y)(hd:o.dst=some d)(hn:B_ d C)
  (hT:Yo P T=some (e,z,by_)) (hz:XX P e=some zs) (hzl:zs.length=z) (hz0:z≠0) (hbig:n*z<=16777216) (hq:σ.opds y.toList=some qs) (hv:qs.all (λq=>q.2.isV)=true)
  (hf:Es (λi=>some (i*z,z)) ((List.range (n*z)).map λk=>zs.getD (k % z) .J) qs=some vs) (hone:vs.all V.one=true) (hdat:vs.all V.dat=true) (hrs:Cs z n vs=rs)
  (hfr:look σ.hp d=none):Qf P C o σ ((σ.set d (.arr z rs)).put d (.own d n)):=by
 refine Qf.val λφ a w hr=>?_
 obtain⟨hu,i,hi,rfl,_⟩:=KT hT
 obtain⟨i',zv,hi',hz',rfl⟩:=BS hz
 rw[hi]at hi';cases hi'
 have hzs:zv.cells.size=i.size:=by simpa using hzl
 have hpos:0<i.size:=Nat.pos_of_ne_zero hz0
 rw[<-ZH zv.cells n i.size hzs hz0]at hf
 obtain⟨xs',h1,h2,h3⟩:=hr.fill hq hv hf
 have hvl:vs.length=n*i.size:=by
  have key:∀(qs:S_) (cs cs':L_ V) (pl:Nat->O_ (Nat×Nat)),Es pl cs qs=some cs'->cs'.length=cs.length:=by
   intro qs
   induction qs with
   | nil=>intro cs cs' pl h;simp only[Es,Option.some.injEq]at h;rw[h]
   | cons q qs ih=>
    intro cs cs' pl h
    obtain⟨k,v⟩:=q
    simp only[Es]at h
    split at h
    ·cases h
    rename_i off m _
    cases hb:(Nat.beq v.cells.length m&&Nat.ble (off+m) cs.length)with
    | false=>rw[hb]at h;cases h
    | true=>
     rw[hb]at h
     rw[QL]at hb
     have hb1:=YE hb.1
     have hb2:=JK hb.2
     rw[ih _ _ _ h]
     simp[Kw];omega
  rw[key _ _ _ _ hf];simp
 subst hrs
 refine⟨.slice (some ⟨w.heap.size,0,none⟩) n n,w.alloc (.cells xs' e),ext φ d ⟨w.heap.size,n,i.size,[],0⟩,?_,?_⟩
 ·have e2:(y.map λp=>(p.1,a.eval p.2)).toList=y.toList.map λp=>(p.1,a.eval p.2):=by simp
  have hb:¬(n*i.size > 2 ^ 24):=by omega
  by_cases hn0:n*i.size=0
  ·have hn1:n=0:=by rcases Nat.mul_eq_zero.1 hn0 with h | h<;>omega
   subst hn1
   simp only[Cr]at h1
   rw[Qfx,Array.map_empty]at h1
   simp only[execOp,ho,Instr.buildSlice,Xf,run_underlying hu,Xl,sizeOf,typeInfo,run_program,hi,Xx,Cr,if_true,e2,Qfx,Array.map_empty]
   simp[h1,newRow]
  simp only[execOp,ho,Instr.buildSlice,Xf,run_underlying hu,Xl,sizeOf,typeInfo,run_program,hi,Xx,if_neg hb,if_neg hn0,zeroValue,hz',e2,h1,newRow,run_newObj]
  simp
 have hN:=hr.none_of_look hfr
 have hnew:=hr.alloc (cap:=n) (z:=i.size) hfr (C.slot hn) (ob:=.arr i.size (Cs i.size n vs)) (obj:=.cells xs' e)
  (Yn.mk0 rfl rfl (by rw[Aa];exact YZ _) (λr hr'=>by
   obtain⟨j,hj⟩:=List.getElem?_of_mem hr'
   have hjn:j<n:=by have:=(Xe.1 hj).1;rwa[Aa]at this
   rw[PW _ _ _ _ hjn]at hj;cases hj
   have:(j+1)*i.size<=n*i.size:=JA _ hjn
   rw[Jf]at this
   refine⟨by simp;omega,λv hv=>?_⟩
   rw[XE]at hone
   exact hone v (OC (Ai hv))) _ e (heap_alloc_new w _) (by rw[h2,hvl]) λm r hm j v D=>by
   have hmn:m<n:=by have:=(Xe.1 hm).1;rwa[Aa]at this
   rw[PW _ _ _ _ hmn]at hm;cases hm
   rw[Jy]at D
   have hjz:j<i.size:=by
    rcases DH j i.size with h | h
    ·exact h
    rw[if_neg (by omega)]at D;simp at D
   rw[if_pos hjz,Gf]at D
   have hlt:m*i.size+j<xs'.size:=by rw[h2];exact(Xe.1 D).1
   refine⟨xs'[m*i.size+j],GZ hlt,?_⟩
   have hD:=(h3 _ _ v (GZ hlt) D).toDat (by rw[XE]at hdat;exact hdat v (XU D))
   exact hD.mono (hr.imm_alloc d n i.size _ hN))
 rw[hd]
 refine hnew.put (XP hn) ?_
 exact .own d n ⟨w.heap.size,n,i.size,[],0⟩ (XD _ _ _) (YZ _)
end
def den1 : O_ Nat->V->V
 | some z,.lit (.slice none 0 0)=>.sl z []
 | _,v=>v
def Dg : L_ (O_ Nat)->L_ V->L_ V
 | m::ms,v::vs=>den1 m v::Dg ms vs
 | _,vs=>vs
def V.denil (ms:L_ (O_ Nat)):V->V
 | .agg h=>.agg (Dg ms h)
 | .tup h=>.tup (Dg ms h)
 | v=>den1 (ms.headD none) v
section
variable {φ:Nat->O_ Xa}{I:Nat->Prop}{w:World}{x:Value}{v:V}
def QO.den1 {m:O_ Nat}(h:QO φ I w x v):QO φ I w x (Vm.den1 m v):=by
 unfold Vm.den1
 split
 ·rw[h.lit_inv];exact .dat (.sl0 _ _ _)
 exact h
def ZI : ∀(ms:L_ (O_ Nat)) (vs:L_ V),(Dg ms vs).length=vs.length:=by
 intro ms
 induction ms with
 | nil=>intro vs;cases vs<;>rfl
 | cons m ms h=>intro vs;cases vs with
  | nil=>rfl
  | cons v vs=>simp[Dg,h vs]
def Rz : ∀(ms:L_ (O_ Nat)) (vs:L_ V) (j:Nat) (u:V),(Dg ms vs)[j]? = some u->∃m v,vs[j]? = some v/\u=Vm.den1 m v:=by
 intro ms
 induction ms with
 | nil=>intro vs j u h;cases vs<;>exact⟨none,u,h,rfl⟩
 | cons m ms y=>
  intro vs j u h
  cases vs with
  | nil=>simp[Dg]at h
  | cons v vs=>
   cases j with
   | zero=>simp[Dg]at h;exact⟨m,v,rfl,h.symm⟩
   | succ j=>simp[Dg]at h;exact y vs j u h
def QO.denil {ms:L_ (O_ Nat)}(h:QO φ I w x v):QO φ I w x (v.denil ms):=by
 unfold V.denil
 split
 ·obtain⟨xs,rfl,hs,D⟩:=h.agg_inv
  refine .agg xs _ (by rw[ZI];exact hs) λj y u hy hu=>?_
  obtain⟨m,v,hv,rfl⟩:=Rz _ _ j u hu
  exact(D j y v hy hv).den1
 ·obtain⟨xs,rfl,hs,D⟩:=h.tup_inv
  refine .tup xs _ (by rw[ZI];exact hs) λj y u hy hu=>?_
  obtain⟨m,v,hv,rfl⟩:=Rz _ _ j u hu
  exact(D j y v hy hv).den1
 exact h.den1
end
section
variable {P:Program}{C:XA}{σ:St}{o:Oper}
def Qf.buildSliceD {T d e z by_ n:Nat}{D:Array (Nat×Operand)}{zs vs:L_ V}{qs:S_}{rs:L_ (L_ V)}(ms:L_ (O_ Nat))(ho:o.op=.buildSlice T n D)(hd:o.dst=some d)(hn:B_ d C)
  (hT:Yo P T=some (e,z,by_)) (hz:XX P e=some zs) (hzl:zs.length=z) (hz0:z≠0) (hbig:n*z<=16777216) (hq:σ.opds D.toList=some qs) (hv:qs.all (λq=>q.2.isV)=true)
  (hf:Es (λi=>some (i*z,z)) ((List.range (n*z)).map λk=>zs.getD (k % z) .J) qs=some vs) (hone:(Dg ms vs).all V.one=true) (hdat:(Dg ms vs).all V.dat=true) (hrs:Cs z n (Dg ms vs)=rs):Qf P C o σ (σ.put d (.sl z rs)):=by
 refine Qf.val λφ a w hr=>?_
 obtain⟨hu,i,hi,rfl,_⟩:=KT hT
 obtain⟨i',zv,hi',hz',rfl⟩:=BS hz
 rw[hi]at hi';cases hi'
 have hzs:zv.cells.size=i.size:=by simpa using hzl
 have hpos:0<i.size:=Nat.pos_of_ne_zero hz0
 rw[<-ZH zv.cells n i.size hzs hz0]at hf
 obtain⟨y,h1,h2,h3⟩:=hr.fill hq hv hf
 have hvl:vs.length=n*i.size:=by
  have key:∀(qs:S_) (cs cs':L_ V) (pl:Nat->O_ (Nat×Nat)),Es pl cs qs=some cs'->cs'.length=cs.length:=by
   intro qs
   induction qs with
   | nil=>intro cs cs' pl h;simp only[Es,Option.some.injEq]at h;rw[h]
   | cons q qs ih=>
    intro cs cs' pl h
    obtain⟨k,v⟩:=q
    simp only[Es]at h
    split at h
    ·cases h
    rename_i off m _
    cases hb:(Nat.beq v.cells.length m&&Nat.ble (off+m) cs.length)with
    | false=>rw[hb]at h;cases h
    | true=>
     rw[hb]at h
     rw[QL]at hb
     have hb1:=YE hb.1
     have hb2:=JK hb.2
     rw[ih _ _ _ h]
     simp[Kw];omega
  rw[key _ _ _ _ hf];simp
 subst hrs
 refine⟨.slice (some ⟨w.heap.size,0,none⟩) n n,w.alloc (.cells y e),φ,?_,?_⟩
 ·have e2:(D.map λp=>(p.1,a.eval p.2)).toList=D.toList.map λp=>(p.1,a.eval p.2):=by simp
  have hb:¬(n*i.size > 2 ^ 24):=by omega
  by_cases hn0:n*i.size=0
  ·have hn1:n=0:=by rcases Nat.mul_eq_zero.1 hn0 with h | h<;>omega
   subst hn1
   simp only[Cr]at h1
   rw[Qfx,Array.map_empty]at h1
   simp only[execOp,ho,Instr.buildSlice,Xf,run_underlying hu,Xl,sizeOf,typeInfo,run_program,hi,Xx,Cr,if_true,e2,Qfx,Array.map_empty]
   simp[h1,newRow]
  simp only[execOp,ho,Instr.buildSlice,Xf,run_underlying hu,Xl,sizeOf,typeInfo,run_program,hi,Xx,if_neg hb,if_neg hn0,zeroValue,hz',e2,h1,newRow,run_newObj]
  simp
 have hold:∀k,k<w.heap.size->(w.alloc (.cells y e)).heap[k]? = w.heap[k]? := λk hk=>heap_alloc_old w _ hk
 have hst:=hr.step (w':=w.alloc (.cells y e)) rfl rfl rfl (by simp) hold
 have hnewI:Xj C φ (w.alloc (.cells y e)) w.heap.size:=⟨by simp,λh=>absurd hr.size (by omega),λo B hB hk=>absurd (hr.lt o B _ hB hk).1 (Nat.lt_irrefl _)⟩
 have hI:∀k,Xj C φ w k->Xj C φ (w.alloc (.cells y e)) k/\(w.alloc (.cells y e)).heap[k]? = w.heap[k]? := λk hk=>⟨⟨Aj hk.1 (by simp),hk.2⟩,hold k hk.1⟩
 rw[hd]
 refine hst.put (XP hn) (.dat (.sl w.heap.size 0 n n i.size (Cs i.size n (Dg ms vs)) (λj=>y.getD j undef) hnewI (Aa _ _ _).symm (YZ _) (λr hr'=>?_) (λj hj=>?_) (λm r hm j v hv'=>?_)))
 ·obtain⟨j,hj⟩:=List.getElem?_of_mem hr'
  have hjn:j<n:=by have:=(Xe.1 hj).1;rwa[Aa]at this
  rw[PW _ _ _ _ hjn]at hj;cases hj
  have:(j+1)*i.size<=n*i.size:=JA _ hjn
  rw[Jf]at this
  refine⟨by simp[ZI];omega,λv hv=>?_⟩
  rw[XE]at hone
  exact hone v (OC (Ai hv))
 ·have:j<y.size:=by omega
  have hh:=heap_alloc_new w (.cells y e)
  simp only[World.cell?,hh]
  simp[Array.getD,this]
 have hmn:m<n:=by have:=(Xe.1 hm).1;rwa[Aa]at this
 rw[PW _ _ _ _ hmn]at hm;cases hm
 rw[Jy]at hv'
 have hjz:j<i.size:=by
  rcases DH j i.size with h | h
  ·exact h
  rw[if_neg (by omega)]at hv';simp at hv'
 rw[if_pos hjz,Gf]at hv'
 obtain⟨mm,v0,hv0,hvv⟩:=Rz _ _ _ _ hv'
 have hlt:m*i.size+j<y.size:=by rw[h2];exact(Xe.1 hv0).1
 have hR:QO φ (Xj C φ w) w y[m*i.size+j] v:=by rw[hvv];exact(h3 _ _ v0 (GZ hlt) hv0).den1
 have hD:=hR.toDat (by rw[XE]at hdat;exact hdat v (XU hv'))
 have:y.getD (m*i.size+j) undef=y[m*i.size+j]:=by simp[Array.getD,hlt]
 rw[this]
 exact hD.mono hI
end
def V.freeN : Nat->Nat->V->Bool
 | _,q,.own o _=>!(Nat.beq o q)
 | _,q,.loc o _ _=>!(Nat.beq o q)
 | _,q,.map o=>!(Nat.beq o q)
 | 0,_,.agg h=>h.all V.plain
 | n+1,q,.agg h=>h.all (V.freeN n q)
 | 0,_,.tup _=>false
 | n+1,q,.tup h=>h.all (V.freeN n q)
 | 0,_,.clo _ _ _=>false
 | n+1,q,.clo _ fs h=>fs.all (V.freeN n q)&&h.all (V.freeN n q)
 | 0,_,.ifc _ _=>false
 | n+1,q,.ifc _ x=>V.freeN n q x
 | _,_,_=>true
def V.freeC (b:Nat)(v:V):Bool:=V.freeN 4 b v
def V.free (b:Nat)(v:V):Bool:=V.freeN 5 b v
def V.kill (b:Nat)(v:V):V:=bif v.free b then v else .J
def V.killC (b:Nat)(v:V):V:=bif v.freeC b then v else .J
def BT {a b:Nat}(h:(!(Nat.beq a b))=true):a≠b:=by
 intro e;subst e;simp at h
section
variable {φ φ':Nat->O_ Xa}{I I':Nat->Prop}{w w':World}
def QO.freeN {b:Nat}(hφ:∀o B,o≠b->φ o=some B->φ' o=some B)(hI:∀k,I k->I' k/\w'.heap[k]? = w.heap[k]?):∀(n:Nat) {x:Value} {v:V},QO φ I w x v->V.freeN n b v=true->QO φ' I' w' x v:=by
 have leaf:∀{x:Value} {v:V},QO φ I w x v->V.freeN 0 b v=true->QO φ' I' w' x v:=by
  intro x v h hv
  cases h with
  | dat h=>exact .dat (h.mono hI)
  | own0 o=>exact .own0 o
  | own o n B hB hn=>exact .own o n B (hφ o B (BT hv) hB) hn
  | loc o i d B hB=>exact .loc o i d B (hφ o B (BT hv) hB)
  | map o B hB=>exact .map o B (hφ o B (BT hv) hB)
  | agg xs cs hs hr=>exact .dat ((QO.aggPlain hs hr hv).mono hI)
  | _=>simp[V.freeN]at hv
 intro n
 induction n with
 | zero=>exact leaf
 | succ n ih=>
  intro x v h hv
  cases v with
  | agg cs=>
   obtain⟨xs,rfl,hs,hr⟩:=h.agg_inv
   rw[V.freeN,XE]at hv
   exact .agg xs cs hs λj x v hx D=>ih (hr j x v hx D) (hv v (XU D))
  | tup cs=>
   obtain⟨xs,rfl,hs,hr⟩:=h.tup_inv
   rw[V.freeN,XE]at hv
   exact .tup xs cs hs λj x v hx D=>ih (hr j x v hx D) (hv v (XU D))
  | clo fn vs us=>
   obtain⟨xs,ys,rfl,h1,h2,h3,h4⟩:=h.clo_inv
   rw[V.freeN,QL,XE,XE]at hv
   exact .clo fn xs ys vs us h1 h2 (λj x v hx D=>ih (h3 j x v hx D) (hv.1 v (XU D))) λj x v hx D=>ih (h4 j x v hx D) (hv.2 v (XU D))
  | ifc t u=>
   obtain⟨y,rfl,hr⟩:=h.ifc_inv
   rw[V.freeN]at hv
   exact .ifc t y u (ih hr hv)
  | own o k=>exact leaf h (by rw[V.freeN]at hv ⊢;exact hv)
  | loc o i d=>exact leaf h (by rw[V.freeN]at hv ⊢;exact hv)
  | map o=>exact leaf h (by rw[V.freeN]at hv ⊢;exact hv)
  | _=>exact leaf h rfl
def QO.freeC {b:Nat}(hφ:∀o B,o≠b->φ o=some B->φ' o=some B)(y:∀k,I k->I' k/\w'.heap[k]? = w.heap[k]?){x:Value}{v:V}(h:QO φ I w x v)(D:v.freeC b=true):
  QO φ' I' w' x v:=QO.freeN hφ y 4 h D
def QO.freeV {b:Nat}(hφ:∀o B,o≠b->φ o=some B->φ' o=some B)(y:∀k,I k->I' k/\w'.heap[k]? = w.heap[k]?){x:Value}{v:V}(h:QO φ I w x v)(D:v.free b=true):
  QO φ' I' w' x v:=QO.freeN hφ y 5 h D
def QO.kill {b:Nat}(hφ:∀o B,o≠b->φ o=some B->φ' o=some B)(y:∀k,I k->I' k/\w'.heap[k]? = w.heap[k]?){x:Value}{v:V}(h:QO φ I w x v):QO φ' I' w' x (v.kill b):=by
 unfold V.kill
 cases D:v.free b with
 | true=>exact h.freeV hφ y D
 | false=>exact .dat (.J x)
def QO.killC {b:Nat}(hφ:∀o B,o≠b->φ o=some B->φ' o=some B)(y:∀k,I k->I' k/\w'.heap[k]? = w.heap[k]?){x:Value}{v:V}(h:QO φ I w x v):QO φ' I' w' x (v.killC b):=by
 unfold V.killC
 cases D:v.freeC b with
 | true=>exact h.freeC hφ y D
 | false=>exact .dat (.J x)
end
def Ob.kill (b:Nat):Ob->Ob
 | .var h=>.var (h.map (V.killC b))
 | .lp l K h q=>.lp l K (h.map (V.killC b)) q
 | ob=>ob
def Ct (b:Nat):S_->S_
 | []=>[]
 | (t,v)::r=>(t,v.kill b)::Ct b r
def Ek (b:Nat):H_->H_
 | []=>[]
 | (o,ob)::r=>bif Nat.beq o b then Ek b r else(o,ob.kill b)::Ek b r
def St.kill (σ:St)(b:Nat):St:=⟨Ct b σ.fr,Ek b σ.hp⟩
def OF {b:Nat}:∀(l:S_) (t:Nat) (v:V),look (Ct b l) t=some v->∃y,look l t=some y/\v=y.kill b:=by
 intro l
 induction l with
 | nil=>intro t v h;cases h
 | cons p l D=>
  intro t v h
  obtain⟨k,u⟩:=p
  by_cases e:k=t
  ·subst e;rw[Ct,QC]at h;cases h;exact⟨u,QC _ _ _,rfl⟩
  rw[Ct,QA _ _ e]at h
  rw[QA _ _ e];exact D t v h
def KO {b:Nat}:∀(l:H_) (t:Nat) (ob:Ob),look (Ek b l) t=some ob->t≠b/\∃ob',look l t=some ob'/\ob=ob'.kill b:=by
 intro l
 induction l with
 | nil=>intro t v h;cases h
 | cons p l ih=>
  intro t ob h
  obtain⟨k,u⟩:=p
  rw[Ek]at h
  cases y:Nat.beq k b with
  | true=>
   rw[y]at h
   have hk:=YE y
   obtain⟨D,h2⟩:=ih t ob h
   exact⟨D,by rw[QA _ _ (by omega)];exact h2⟩
  | false=>
   rw[y]at h
   by_cases e:k=t
   ·subst e
    simp only[QJ]at h
    rw[QC]at h;cases h
    exact⟨BT (by rw[y];rfl),u,QC _ _ _,rfl⟩
   simp only[QJ]at h
   rw[QA _ _ e]at h
   obtain⟨D,h2⟩:=ih t ob h
   exact⟨D,by rw[QA _ _ e];exact h2⟩
def Uf {b:Nat}:∀(l:H_) (t:Nat) (ob:Ob),t≠b->look l t=some ob->look (Ek b l) t=some (ob.kill b):=by
 intro l
 induction l with
 | nil=>intro t v _ h;cases h
 | cons p l ih=>
  intro t ob y h
  obtain⟨k,u⟩:=p
  rw[Ek]
  by_cases e:k=t
  ·subst e
   rw[QC]at h;cases h
   cases D:Nat.beq k b with
   | true=>exact absurd (YE D) y
   | false=>simp only[QJ];exact QC _ _ _
  rw[QA _ _ e]at h
  cases D:Nat.beq k b with
  | true=>simp only[XK];exact ih t ob y h
  | false=>simp only[QJ];rw[QA _ _ e];exact ih t ob y h
def EP (φ:Nat->O_ Xa)(b:Nat):Nat->O_ Xa:=λk=>if k=b then none else φ k
def ZJ (φ:Nat->O_ Xa)(b:Nat):EP φ b b=none:=by simp[EP]
def Dy {φ:Nat->O_ Xa}{b k:Nat}(h:k≠b):EP φ b k=φ k:=by simp[EP,h]
def Kn {φ:Nat->O_ Xa}{b k:Nat}{B:Xa}(h:EP φ b k=some B):k≠b/\φ k=some B:=by
 by_cases e:k=b
 ·subst e;rw[ZJ]at h;cases h
 rw[Dy e]at h;exact⟨e,h⟩
def JL.kill {φ φ':Nat->O_ Xa}{I I':Nat->Prop}{w w':World}{b:Nat}(hφ:∀o B,o≠b->φ o=some B->φ' o=some B)(h:∀k,I k->I' k/\w'.heap[k]? = w.heap[k]?)
  {B:Xa} (y:∀k,B.has k->w'.heap[k]? = w.heap[k]?) {ob:Ob} (d:JL φ I w B ob):JL φ' I' w' B (ob.kill b):=by
 cases ob with
 | var vs=>
  obtain⟨cs,E,h1,h2,h0,h3⟩:=d
  refine⟨cs,E,(y _ B.self).trans h1,by simpa using h2,h0,λj x v hx hv=>?_⟩
  rw[Yb]at hv
  obtain⟨u,hu,rfl⟩:=XZ.1 hv
  exact(h3 j x u hx hu).killC hφ h
 | lp l K vs q=>
  obtain⟨tmps,D,rfl,h1,h2,h3,h4⟩:=d
  refine⟨tmps,D,rfl,h1,(y _ B.self).trans h2,by simpa using h3,λj x v hx hv=>?_⟩
  rw[Yb]at hv
  obtain⟨u,hu,rfl⟩:=XZ.1 hv
  exact(h4 j x u hx hu).killC hφ h
 | arr z rs=>exact Yn.mono h (y _ B.self) d
 | map l=>exact Df.mono h (y _ B.self) d
 | grp z l lk=>exact Gu.mono h y d
 | mapX bm clock L l=>exact UY.mono h (y _ B.self) d
 | itr bm since seen cur=>exact Rr.mono (y _ B.self) d
 | itr0=>obtain⟨s,c,h1⟩:=d;exact⟨s,c,(y _ B.self).trans h1.1,h1.2⟩
 | tbl A z rs=>exact Ue.mono h y d
 | nst x v=>exact Ru.mono y d
 | scr D H=>exact Rv.mono y d
def Ob.Nil.kill {ob:Ob}{b:Nat}(h:ob.Nil):(ob.kill b).Nil:=by cases ob<;>first | exact h | exact h.elim
section
variable {C:XA}{φ:Nat->O_ Xa}{σ:St}{a:Act}{w:World}
def Xj.of_del {k b:Nat}(h:Xj C φ w k):Xj C (EP φ b) w k:=⟨h.1,h.2.1,λo B y=>h.2.2 o B (Kn y).2⟩
def RR.kill (h:RR C φ σ a w)(b:Nat):RR C (EP φ b) (σ.kill b) a w:=by
 have hI:∀k,Xj C φ w k->Xj C (EP φ b) w k/\w.heap[k]? = w.heap[k]? := λk hk=>⟨hk.of_del,rfl⟩
 have hφ:∀o B,o≠b->φ o=some B->EP φ b o=some B:=λo B ho y=>by rw[Dy ho];exact y
 refine⟨h.os,h.tape,h.output,h.size,h.kept,λo o' B B' k D h2=>h.inj o o' B B' k (Kn D).2 (Kn h2).2,?_,λo B k y=>h.lt o B k (Kn y).2,λo B k y=>h.new o B k (Kn y).2,⟨λo B D y=>h.stay.1 o B D (Kn y).2,λo ob B D ho y=>by obtain⟨hne,ob',h2,_⟩:=KO _ _ _ ho;rw[Dy hne];exact h.stay.2 o ob' B D h2 y⟩,h.tmps,h.defers.mono hI,?_,?_⟩
 ·intro o B y
  obtain⟨D,h2⟩:=Kn y
  obtain⟨ob,hob⟩:=h.dom o B h2
  exact⟨_,Uf _ _ _ D hob⟩
 ·intro t v hv
  obtain⟨v',hv',rfl⟩:=OF _ _ _ hv
  obtain⟨x,hx,hr⟩:=h.frame t v' hv'
  exact⟨x,hx,hr.kill hφ hI⟩
 intro o ob hob
 obtain⟨hne,ob',hob',rfl⟩:=KO _ _ _ hob
 rcases h.heap o ob' hob' with⟨B,y,hr⟩|⟨D,hz⟩
 ·exact .inl ⟨B,hφ o B hne y,hr.kill hφ hI λ_ _=>rfl⟩
 exact .inr ⟨by rw[Dy hne];exact D,hz.kill⟩
def RR.say (h:RR C φ σ a w){t:Nat}{x:Value}{v:V}(hx:a.tmps[t]? = some x)(hr:QO φ (Xj C φ w) w x v):RR C φ (σ.put t v) a w:=by
 refine⟨h.os,h.tape,h.output,h.size,h.kept,h.inj,h.dom,h.lt,h.new,h.stay,h.tmps,h.defers,?_,h.heap⟩
 intro D v' y
 by_cases e:t=D
 ·subst e;rw[St.put,QC]at y;cases y;exact⟨x,hx,hr⟩
 rw[St.put,QA _ _ e]at y;exact h.frame D v' y
def RR.setNil (h:RR C φ σ a w){b z:Nat}(hlt:b<617)(hb:look σ.hp b=none):RR C φ (σ.set b (.arr z [])) a w:=by
 have hn:=h.none_of_look hb
 refine⟨h.os,h.tape,h.output,h.size,h.kept,h.inj,?_,h.lt,h.new,⟨h.stay.1,λo ob B hge ho D=>h.stay.2 o ob B hge (by rwa[σ.look_set_other _ (by omega)]at ho) D⟩,h.tmps,h.defers,h.frame,?_⟩
 ·intro o B D
  by_cases e:o=b
  ·subst e;exact⟨_,σ.look_set_same _ _⟩
  obtain⟨ob,h1⟩:=h.dom o B D;exact⟨ob,by rw[σ.look_set_other _ (Ne.symm e)];exact h1⟩
 intro o ob y
 by_cases e:o=b
 ·subst e;rw[σ.look_set_same]at y;cases y;exact .inr ⟨hn,rfl⟩
 rw[σ.look_set_other _ (Ne.symm e)]at y;exact h.heap o ob y
end
section
variable {C:XA}{σ:St}{a:Act}{w:World}
def R.kill (h:R C σ a w)(b:Nat):R C (σ.kill b) a w:=let ⟨φ,hr⟩:=h;⟨_,hr.kill b⟩
def R.adopt (h:R C σ a w){t b z:Nat}(D:b<617)(ht:look σ.fr t=some (.lit (.slice none 0 0)))(hb:look σ.hp b=none):R C ((σ.set b (.arr z [])).put t (.own b 0)) a w:=by
 obtain⟨φ,hr⟩:=h
 obtain⟨x,hx,y⟩:=hr.frame t _ ht
 have:=y.lit_inv
 subst this
 exact⟨φ,(hr.setNil D hb).say hx (.own0 b)⟩
def HI (fr:S_):S_->Prop
 | []=>True
 | (t,v)::r=>look fr t=some v/\HI fr r
def HI.look {fr:S_}:∀{l:S_},HI fr l->∀t v,Vm.look l t=some v->Vm.look fr t=some v:=by
 intro l
 induction l with
 | nil=>intro _ t v h;cases h
 | cons p l ih=>
  intro ⟨y,D⟩ t v h
  obtain⟨k,u⟩:=p
  by_cases e:k=t
  ·subst e;rw[QC]at h;cases h;exact y
  rw[QA _ _ e]at h;exact ih D t v h
def R.sub (h:R C σ a w){fr:S_}(y:HI σ.fr fr):R C ⟨fr,σ.hp⟩ a w:=let ⟨φ,hr⟩:=h;⟨φ,hr.le y.look⟩
end
def XJ : L_ Nat->Nat->Bool
 | [],_=>false
 | k::r,t=>Nat.beq k t||XJ r t
def V.inC (ks:L_ Nat):V->Bool
 | .own o _=>XJ ks o
 | .loc o _ _=>XJ ks o
 | .map o=>XJ ks o
 | .agg h=>h.all V.plain
 | .tup _=>false
 | .clo _ _ _=>false
 | .ifc _ x=>x.inC ks
 | _=>true
def V.inK (ks:L_ Nat):V->Bool
 | .agg h=>h.all (V.inC ks)
 | .clo _ fs h=>fs.all (V.inC ks)&&h.all (V.inC ks)
 | v=>v.inC ks
def Ob.inK (ks:L_ Nat):Ob->Bool
 | .var h=>h.all (V.inK ks)
 | .lp _ _ h _=>h.all (V.inK ks)
 | _=>true
def QO.inC {φ φ':Nat->O_ Xa}{I I':Nat->Prop}{w:World}{ks:L_ Nat}(hφ:∀o B,XJ ks o=true->φ o=some B->φ' o=some B)(hI:∀k,I k->I' k){x:Value}{v:V}
  (h:QO φ I w x v) (y:v.inC ks=true):QO φ' I' w x v:=by
 induction h with
 | dat h=>exact .dat (h.mono λk hk=>⟨hI k hk,rfl⟩)
 | own0 o=>exact .own0 o
 | own o n B D hn=>exact .own o n B (hφ o B y D) hn
 | loc o i d B D=>exact .loc o i d B (hφ o B y D)
 | map o B D=>exact .map o B (hφ o B y D)
 | ifc t x v _ ih=>exact .ifc t x v (ih y)
 | agg xs cs hs hr _=>exact .dat ((QO.aggPlain hs hr y).mono λk hk=>⟨hI k hk,rfl⟩)
 | _=>simp[V.inC]at y
def QO.inK {φ φ':Nat->O_ Xa}{I I':Nat->Prop}{w:World}{ks:L_ Nat}(hφ:∀o B,XJ ks o=true->φ o=some B->φ' o=some B)(hI:∀k,I k->I' k){x:Value}{v:V}
  (h:QO φ I w x v) (D:v.inK ks=true):QO φ' I' w x v:=by
 cases v with
 | agg cs=>
  obtain⟨xs,rfl,hs,hr⟩:=h.agg_inv
  rw[V.inK,XE]at D
  exact .agg xs cs hs λj x v hx y=>(hr j x v hx y).inC hφ hI (D v (XU y))
 | clo fn vs us=>
  obtain⟨xs,ys,rfl,h1,h2,h3,h4⟩:=h.clo_inv
  rw[V.inK,QL,XE,XE]at D
  exact .clo fn xs ys vs us h1 h2 (λj x v hx y=>(h3 j x v hx y).inC hφ hI (D.1 v (XU y))) λj x v hx y=>(h4 j x v hx y).inC hφ hI (D.2 v (XU y))
 | _=>exact h.inC hφ hI D
def UD (hp:H_):H_->Prop
 | []=>True
 | (o,ob)::r=>look hp o=some ob/\UD hp r
def UD.look {hp:H_}:∀{l:H_},UD hp l->∀t v,Vm.look l t=some v->Vm.look hp t=some v:=by
 intro l
 induction l with
 | nil=>intro _ t v h;cases h
 | cons p l ih=>
  intro ⟨y,D⟩ t v h
  obtain⟨k,u⟩:=p
  by_cases e:k=t
  ·subst e;rw[QC]at h;cases h;exact y
  rw[QA _ _ e]at h;exact ih D t v h
def keys {α:Type}:L_ (Nat×α)->L_ Nat
 | []=>[]
 | (k,_)::r=>k::keys r
def RA {α:Type}:∀{l:L_ (Nat×α)} {t:Nat} {v:α},look l t=some v->XJ (keys l) t=true:=by
 intro l
 induction l with
 | nil=>intro t v h;cases h
 | cons p l y=>
  intro t v h
  obtain⟨k,u⟩:=p
  by_cases e:k=t
  ·subst e;simp[keys,XJ]
  rw[QA _ _ e]at h;simp[keys,XJ,y h]
def Qig {α:Type}:∀{l:L_ (Nat×α)} {t:Nat},XJ (keys l) t=true->∃v,look l t=some v:=by
 intro l
 induction l with
 | nil=>intro t h;cases h
 | cons p l y=>
  intro t h
  obtain⟨k,u⟩:=p
  by_cases e:k=t
  ·subst e;exact⟨u,QC _ _ _⟩
  rw[QA _ _ e]
  simp only[keys,XJ,KR]at h
  rcases h with h | h
  ·exact absurd (YE h) e
  exact y h
def St.closed (σ:St):Bool:=σ.fr.all (λp=>p.2.inK (keys σ.hp))&&σ.hp.all (λp=>p.2.inK (keys σ.hp))
def Je {α:Type}:∀{l:L_ (Nat×α)} {t:Nat} {v:α},look l t=some v->(t,v)∈l:=by
 intro l
 induction l with
 | nil=>intro t v h;cases h
 | cons p l y=>
  intro t v h
  obtain⟨k,u⟩:=p
  by_cases e:k=t
  ·subst e;rw[QC]at h;cases h;exact YF
  rw[QA _ _ e]at h;exact Jz _ (y h)
section
variable {C:XA}{σ:St}{a:Act}{w:World}
def R.to (h:R C σ a w){fr:S_}{hp:H_}(hf:HI σ.fr fr)(hh:UD σ.hp hp)(hk:St.closed ⟨fr,hp⟩=true):R C ⟨fr,hp⟩ a w:=by
 obtain⟨φ,hr⟩:=h
 rw[St.closed,QL,XE,XE]at hk
 let φ':Nat->O_ Xa:=λo=>if XJ (keys hp) o=true then φ o else none
 have hs:∀o B,φ' o=some B->XJ (keys hp) o=true/\φ o=some B:=by
  intro o B hB
  simp only[φ']at hB
  split at hB
  ·exact⟨by assumption,hB⟩
  cases hB
 have hφ:∀o B,XJ (keys hp) o=true->φ o=some B->φ' o=some B:=λo B h1 h2=>by simp only[φ',h1,if_true];exact h2
 have hI:∀k,Xj C φ w k->Xj C φ' w k:=λk hk=>⟨hk.1,hk.2.1,λo B hB=>hk.2.2 o B (hs o B hB).2⟩
 refine⟨φ',hr.os,hr.tape,hr.output,hr.size,hr.kept,λo o' B B' k h1 h2=>hr.inj o o' B B' k (hs _ _ h1).2 (hs _ _ h2).2,λo B hB=>Qig (hs o B hB).1,
  λo B k hB=>hr.lt o B k (hs o B hB).2,λo B k hB=>hr.new o B k (hs o B hB).2,⟨λo B h1 hB=>hr.stay.1 o B h1 (hs o B hB).2,λo ob B h1 ho hB=>hφ o B (RA ho) (hr.stay.2 o ob B h1 (hh.look o ob ho) hB)⟩,hr.tmps,hr.defers.mono λk hk=>⟨hI k hk,rfl⟩,?_,?_⟩
 ·intro t v hv
  obtain⟨x,hx,y⟩:=hr.frame t v (hf.look t v hv)
  exact⟨x,hx,y.inK hφ hI (hk.1 (t,v) (Je hv))⟩
 intro o ob hob
 have hm:=RA hob
 rcases hr.heap o ob (hh.look o ob hob)with⟨B,hB,y⟩|⟨h1,h2⟩
 ·refine .inl ⟨B,hφ o B hm hB,?_⟩
  have hok:=hk.2 (o,ob) (Je hob)
  cases ob with
  | var cs=>
   obtain⟨xs,E,h1,h2,h0,h3⟩:=y
   rw[Ob.inK,XE]at hok
   exact⟨xs,E,h1,h2,h0,λj x v hx hv=>(h3 j x v hx hv).inK hφ hI (hok v (XU hv))⟩
  | lp l K vs q=>
   obtain⟨tmps,D,e1,h1,h2,h3,h4⟩:=y
   rw[Ob.inK,XE]at hok
   exact⟨tmps,D,e1,h1,h2,h3,λj x v hx hv=>(h4 j x v hx hv).inK hφ hI (hok v (XU hv))⟩
  | arr z rs=>exact Yn.mono (λk hk=>⟨hI k hk,rfl⟩) rfl y
  | map l=>exact Df.mono (λk hk=>⟨hI k hk,rfl⟩) rfl y
  | grp z l lk=>exact Gu.mono (λk hk=>⟨hI k hk,rfl⟩) (λ_ _=>rfl) y
  | mapX bm clock L l=>exact UY.mono (λk hk=>⟨hI k hk,rfl⟩) rfl y
  | itr bm since seen cur=>exact y
  | itr0=>exact y
  | tbl A z rs=>exact Ue.mono (λk hk=>⟨hI k hk,rfl⟩) (λ_ _=>rfl) y
  | nst x v=>exact y
  | scr D H=>exact y
 exact .inr ⟨by simp only[φ',hm,if_true];exact h1,h2⟩
end
def Qbg (φ:Nat->O_ Xa)(I:Nat->Prop)(w:World)(x:Value)(z:Nat)(us:L_ (L_ V)):Prop:=
 (∃a cap,x=.slice a 0 cap/\us=[])\/
 ∃(p:Addr) (cap:Nat) (h:L_ Value),x=.slice (some p) us.length cap/\h.length=us.length*z/\(∀(j:Nat) u,h[j]? = some u->w.cell? (p.add j)=some u)/\(∀u∈h,u.oneCell'=true)/\
  (∀r∈us,Er z r)/\∀(i:Nat) r,us[i]? = some r->∀(j:Nat) v,r[j]? = some v->∃u,h[i*z+j]? = some u/\Xy I w u v
def QO.source_sl {φ:Nat->O_ Xa}{I:Nat->Prop}{w:World}{x:Value}{z:Nat}{us:L_ (L_ V)}(h:QO φ I w x (.sl z us)):Qbg φ I w x z us:=by
 rcases h.sl_inv with⟨a,cap,rfl,rfl⟩|⟨b,off,cap,rfl,hI,hcap,D,c,hc,hd⟩
 ·exact .inl ⟨a,cap,rfl,rfl⟩
 refine .inr ⟨⟨b,off,none⟩,cap,(List.range (us.length*z)).map c,rfl,by simp,λj u hu=>?_,λu hu=>?_,D,λi r hi j v hj=>?_⟩
 ·simp only[Yb,XZ,Xe,Qcl,Qck]at hu
  obtain⟨_,⟨hj,rfl⟩,rfl⟩:=hu
  rw[Addr.add_lit];exact hc j hj
 ·simp only[Yl,Fs]at hu
  obtain⟨k,hk,rfl⟩:=hu
  have hz:0<z:=by rcases Nat.eq_zero_or_pos z with h | h;(· subst h;simp at hk);exact h
  have hi:k / z<us.length:=(Nat.div_lt_iff_lt_mul hz).2 hk
  have y:=D us[k / z] (XW _)
  have hj:k % z<(us[k / z]).length:=by rw[y.1];exact Nat.mod_lt _ hz
  have hD:=hd (k / z) _ (QR hi) (k % z) _ (QR hj)
  rw[Nat.mul_comm,Nat.div_add_mod]at hD
  exact((QO.dat (φ:=φ) hD).oneCell (y.2 _ (XW _))).2
 have hin:i<us.length:=(Xe.1 hi).1
 have hjz:j<z:=by have:=(Xe.1 hj).1;rwa[(D r (XU hi)).1]at this
 have hlt:i*z+j<us.length*z:=by
  have:(i+1)*z<=us.length*z:=JA _ hin
  rw[Jf]at this;omega
 exact⟨c (i*z+j),by simp[hlt],hd i r hi j v hj⟩
def QO.source_own {C:XA}{φ:Nat->O_ Xa}{σ:St}{a:Act}{w:World}(hr:RR C φ σ a w){x:Value}{b n z:Nat}{rs:L_ (L_ V)}(h:QO φ (Xj C φ w) w x (.own b n))
  (hb:look σ.hp b=some (.arr z rs)) (hn:n<=rs.length):Qbg φ (Xj C φ w) w x z (rs.take n):=by
 rcases h.own_inv with⟨rfl,rfl⟩|⟨B,hB,hcap,rfl⟩
 ·exact .inl ⟨none,0,rfl,by simp⟩
 obtain⟨rfl,hrl,hok,cs,E,h1,h2,h3⟩:=hr.block hB hb
 have hle2:B.off+n*B.z<=cs.size:=Kj (Nat.add_le_add_left (JA _ hcap) _) h2
 have hlen:(rs.take n).length=n:=by simp;omega
 have get:∀(i:Nat) r,(rs.take n)[i]? = some r->rs[i]? = some r/\i<n:=by
  intro i r D
  rw[Jy]at D
  by_cases h:i<n
  ·rw[if_pos h]at D;exact⟨D,h⟩
  rw[if_neg h]at D;simp at D
 refine .inr ⟨⟨B.b,B.off,none⟩,B.cap,(cs.toList.drop B.off).take (n*B.z),by rw[hlen],by simp[hlen];omega,λj u hu=>?_,λu hu=>?_,λr hr'=>hok r (Ai hr'),λi r D j v hj=>?_⟩
 ·rw[Jy]at hu
  by_cases h:j<n*B.z
  ·rw[if_pos h]at hu
   rw[Gf]at hu
   simp[Addr.add_lit,World.cell?,h1];simpa using hu
  rw[if_neg h]at hu;simp at hu
 ·obtain⟨k,hk⟩:=List.getElem?_of_mem hu
  rw[Jy]at hk
  by_cases h:k<n*B.z
  ·rw[if_pos h]at hk
   have hz:0<B.z:=by rcases Nat.eq_zero_or_pos B.z with h' | h';(· rw[h']at h;omega);exact h'
   have D:k / B.z<rs.length:=Aj ((Nat.div_lt_iff_lt_mul hz).2 h) hn
   have hrow:=hok rs[k / B.z] (XW _)
   have hj:k % B.z<(rs[k / B.z]).length:=by rw[hrow.1];exact Nat.mod_lt _ hz
   obtain⟨y,hy,hD⟩:=h3 (k / B.z) _ (QR D) (k % B.z) _ (QR hj)
   rw[Nat.mul_comm,Nat.div_add_mod]at hy
   have:y=u:=by
    have e:cs[B.off+k]? = some u:=by rw[Gf]at hk;simpa using hk
    rw[e]at hy;exact(Option.some.inj hy).symm
   subst this
   exact((QO.dat (φ:=φ) hD).oneCell (hrow.2 _ (XW _))).2
  rw[if_neg h]at hk;simp at hk
 obtain⟨hi',hin⟩:=get i r D
 obtain⟨y,hy,hD⟩:=h3 i r hi' j v hj
 have hjz:j<B.z:=by have:=(Xe.1 hj).1;rwa[(hok r (XU hi')).1]at this
 have hlt:i*B.z+j<n*B.z:=by
  have:(i+1)*B.z<=n*B.z:=JA _ hin
  rw[Jf]at this;omega
 exact⟨y,by rw[Jy,if_pos hlt,Gf];simpa using hy,hD⟩
def Qhg {P:Program}{T U ty e e':TypeId}{base:O_ Addr}{n c:Nat}{x:Value}{w:World}{i:TypeInfo}(h:P.underlying T=some (.slice e))(y:P.underlying U=some (.slice e'))(D:P.info? e=some i):
  (Builtin.append_ #[T,U] ty #[.slice base n c,x]).run P w=(Builtin.append_ #[T,T] ty #[.slice base n c,x]).run P w:=by
 unfold Builtin.append_
 simp only[UA,List.getElem?_cons_zero,Qcj,Xf,run_underlying h,Xl,sizeOf,typeInfo,run_program,D,Xx,run_underlying y]
def Tf {P:Program}{T ty e:TypeId}{w:World}{i:TypeInfo}(y:P.underlying T=some (.slice e))(D:P.info? e=some i)(base a:O_ Addr)(n cap c:Nat)(h:n<=cap):
  (Builtin.append_ #[T,T] ty #[.slice base n cap,.slice a 0 c]).run P w=.ok (.slice base n cap) w:=by
 cases base<;>cases a<;>simp[Builtin.append_,run_underlying y,sizeOf,typeInfo,D,Builtin.lenOf,h,Builtin.firstCells,loadCells,loadCellsFrom,storeCells]
def Tg {P:Program}{T ty e E:TypeId}{w:World}{i:TypeInfo}(hT:P.underlying T=some (.slice e))(hi:P.info? e=some i)(g off y sCap:Nat)(D:Array Value)(hg:w.heap[g]? = some (.cells D E (0,0)))
  (a:Addr) (m c:Nat) (h:L_ Value) (hl:h.length=m*i.size) (hnews:∀(j:Nat) u,h[j]? = some u->w.cell? (a.add j)=some u) (h1:∀u∈h,u.oneCell'=true)
  (hroom:y+m<=sCap) (hfit:off+y*i.size+h.length<=D.size):
  (Builtin.append_ #[T,T] ty #[.slice (some ⟨g,off,none⟩) y sCap,.slice (some a) m c]).run P w =
   .ok (.slice (some ⟨g,off,none⟩) (y+m) sCap) (w.setRow g (D.toList.take (off+y*i.size)++h++D.toList.drop (off+y*i.size+h.length)).toArray):=by
 have hf:(Builtin.firstCells i.size m (.slice (some a) m c)).run P w=.ok h.toArray w:=by
  have:=run_loadCells_list (P:=P) w a h hnews
  rw[hl]at this
  simpa[Builtin.firstCells] using this
 have hst:=run_storeCells_at P g (off+y*i.size) E h 0 D w hg (by simpa using hfit) h1
 simp only[OD]at hst
 simp[Builtin.append_,run_underlying hT,sizeOf,typeInfo,hi,Builtin.lenOf,hroom,hf,Addr.add_lit,hst]
section
variable {P:Program}{C:XA}{σ:St}{o:Oper}
def St.app (σ:St)(b z d n:Nat)(rs:L_ (L_ V)):St:=((σ.kill b).set b (.arr z rs)).put d (.own b n)
def RR.moved {φ:Nat->O_ Xa}{a:Act}{w:World}(hr:RR C φ σ a w){b cap z:Nat}{E:TypeId}{cells:Array Value}{rs:L_ (L_ V)}(hb:b<617)(w':World)
  (hw:w'=w.drew.alloc (.cells cells E)) (hrep:Yn (Xj C φ w) w' ⟨w.heap.size,cap,z,[],0⟩ z rs):
  RR C (ext (EP φ b) b ⟨w.heap.size,cap,z,[],0⟩) ((σ.kill b).set b (.arr z rs)) a w':=by
 subst hw
 have hk:=hr.kill b
 have hk':RR C (EP φ b) (σ.kill b) a w.drew:=hk.step rfl rfl rfl (YZ _) (λ_ _=>rfl)
 have D:look (σ.kill b).hp b=none:=by
  cases h:look (σ.kill b).hp b with
  | none=>rfl
  | some ob=>exact absurd rfl (KO _ _ _ h).1
 refine hk'.alloc (cap:=cap) (z:=z) D hb ?_
 refine Yn.mono (w:=w.drew.alloc (.cells cells E)) ?_ rfl hrep
 intro k y
 refine⟨?_,rfl⟩
 have:=hk'.imm_alloc b cap z (.cells cells E) (ZJ _ _) k ⟨y.1,y.2.1,λo B hB=>y.2.2 o B (Kn hB).2⟩
 exact this.1
def RR.reset {φ:Nat->O_ Xa}{a:Act}{w:World}(h:RR C φ σ a w)(b:Nat)(ob:Ob)(hex:∃D,look σ.hp b=some D)(hob:(∃B,φ b=some B/\JL φ (Xj C φ w) w B ob)\/(φ b=none/\ob.Nil)):
  RR C φ ((σ.kill b).set b ob) a w:=by
 have hI:∀k,Xj C φ w k->Xj C φ w k/\w.heap[k]? = w.heap[k]? := λk hk=>⟨hk,rfl⟩
 have hφ:∀o B,o≠b->φ o=some B->φ o=some B:=λ_ _ _ h=>h
 refine⟨h.os,h.tape,h.output,h.size,h.kept,h.inj,?_,h.lt,h.new,⟨h.stay.1,λo ob' B hge ho hB=>by
  by_cases e:o=b
  ·subst e;obtain⟨D,h0⟩:=hex;exact h.stay.2 o D B hge h0 hB
  rw[St.look_set_other _ _ (Ne.symm e)]at ho;obtain⟨_,ob2,h2,_⟩:=KO _ _ _ ho;exact h.stay.2 o ob2 B hge h2 hB⟩,h.tmps,h.defers,?_,?_⟩
 ·intro o B hB
  by_cases e:o=b
  ·subst e;exact⟨ob,St.look_set_same _ _ _⟩
  obtain⟨ob',h'⟩:=h.dom o B hB
  exact⟨_,by rw[St.look_set_other _ _ (Ne.symm e)];exact Uf _ _ _ e h'⟩
 ·intro t v hv
  obtain⟨v',hv',rfl⟩:=OF _ _ _ hv
  obtain⟨x,hx,hr⟩:=h.frame t v' hv'
  exact⟨x,hx,hr.kill hφ hI⟩
 intro o ob' y
 by_cases e:o=b
 ·subst e;rw[St.look_set_same]at y;cases y;exact hob
 rw[St.look_set_other _ _ (Ne.symm e)]at y
 obtain⟨hne,ob2,hob2,rfl⟩:=KO _ _ _ y
 rcases h.heap o ob2 hob2 with⟨B,hB,hr⟩|⟨h1,hz⟩
 ·exact .inl ⟨B,hB,hr.kill hφ hI λ_ _=>rfl⟩
 exact .inr ⟨h1,hz.kill⟩
def St.set_kill (σ:St)(b:Nat)(ob:Ob):(σ.set b ob).kill b=σ.kill b:=by
 simp[St.set,St.kill,Ek]
def OG {I:Nat->Prop}{w:World}{z n:Nat}{rs us:L_ (L_ V)}{olds y rest:L_ Value}(hnl:rs.length=n)(hol:olds.length=n*z)(hok:∀r∈rs,Er z r)(huk:∀r∈us,Er z r)(hul:y.length=us.length*z)
  (ho:∀(i:Nat) r,rs[i]? = some r->∀(j:Nat) v,r[j]? = some v->∃u,olds[i*z+j]? = some u/\Xy I w u v)
  (hu:∀(i:Nat) r,us[i]? = some r->∀(j:Nat) v,r[j]? = some v->∃u,y[i*z+j]? = some u/\Xy I w u v):
  (∀r∈rs++us,Er z r)/\∀(i:Nat) r,(rs++us)[i]? = some r->∀(j:Nat) v,r[j]? = some v->∃u,(olds++(y++rest))[i*z+j]? = some u/\Xy I w u v:=by
 refine⟨λr hr=>?_,λi r hi j v hj=>?_⟩
 ·rcases Ep.1 hr with h | h
  ·exact hok r h
  exact huk r h
 by_cases hin:i<n
 ·rw[YL (by omega)]at hi
  obtain⟨u,D,h2⟩:=ho i r hi j v hj
  exact⟨u,by rw[YL (Xe.1 D).1];exact D,h2⟩
 rw[Jx (by omega)]at hi
 obtain⟨u,D,h2⟩:=hu _ r hi j v hj
 have e:i*z+j=olds.length+((i-rs.length)*z+j):=by
  have:i*z=n*z+(i-n)*z:=by rw[<-Jf];congr 1;omega
  rw[hol,hnl];omega
 refine⟨u,?_,h2⟩
 rw[e,Jx (by omega),Nat.add_sub_cancel_left,YL (Xe.1 D).1]
 exact D
def Qek {T U d e e' z z' by_ by' b n m:Nat}{x y:Operand}{rs us rs':L_ (L_ V)}{zs:L_ V}(ho:o.op=.call { callee:=.builtin .append,args:=#[x,y],argTypes:=#[T,U] })
  (hd:o.dst=some d) (hn:B_ d C) (hx:σ.opd x=some (.own b n)) (hb:look σ.hp b=some (.arr z rs)) (hb1:Nat.ble 617 b=false) (hnl:rs.length=n)
  (hT:Yo P T=some (e,z,by_)) (hU:Yo P U=some (e',z',by')) (hz:XX P e=some zs) (hzl:zs.length=z) (hz0:z≠0) (hsm:n+us.length<=140737488355328) (hbytes:(n+us.length)*by_<=140737488355328)
  (hy:∀φ a w,RR C φ σ a w->Qbg φ (Xj C φ w) w (a.eval y) z us) (he:rs++us=rs') (hm:n+us.length=m):∀φ a w,RR C φ σ a w->∃v w' φ',(execOp a.eval o).run P w=.ok (.value v) w'/\RR C φ' (σ.app b z d m rs') (a.put o.dst v) w':=by
 intro φ a w hr
 subst hnl he hm
 obtain⟨hu,i,hi,rfl,rfl⟩:=KT hT
 obtain⟨hu',_⟩:=KT hU
 obtain⟨i',zv,hi',hz',hmap⟩:=BS hz
 rw[hi]at hi';cases hi'
 have hb2:b<617:=by
  rcases DH b 617 with h | h
  ·exact h
  rw[PV h]at hb1;cases hb1
 have hzs:zv.cells.size=i.size:=by rw[<-hzl,<-hmap];simp
 have hpos:0<i.size:=Nat.pos_of_ne_zero hz0
 have hexec:∀base n c v w',a.eval x=.slice base n c->(Builtin.append_ #[T,T] o.type #[.slice base n c,a.eval y]).run P w=.ok v w'->(execOp a.eval o).run P w=.ok (.value v) w':=by
  intro base n c v w' h1 h
  simp only[execOp,ho,resolve,invoke,builtin,Xf,Xx,Xl,List.map_toArray,GK,List.map_nil,h1,Qhg hu hu' hi,h]
 have hown:=(hr.opd hx).own_inv
 by_cases h0:us=[]
 ·
  subst h0
  have hsrc:∃p c,a.eval y=.slice p 0 c:=by
   rcases hy φ a w hr with⟨p,c,h,_⟩|⟨p,c,_,h,_⟩
   ·exact⟨p,c,h⟩
   exact⟨some p,c,by simpa using h⟩
  obtain⟨p,c,hp⟩:=hsrc
  simp only[Lm,HG,OD]
  rcases hown with⟨h1,h2⟩|⟨B,hB,hcap,h1⟩
  ·refine⟨.slice none 0 0,w,φ,hexec none 0 0 _ _ h1 (by rw[hp];exact Tf hu hi none p 0 0 c (YZ _)),?_⟩
   have:=hr.reset b (.arr i.size rs) ⟨_,hb⟩ (by
    rcases hr.heap b _ hb with⟨B,hB,hrep⟩|hn
    ·exact .inl ⟨B,hB,hrep⟩
    exact .inr hn)
   rw[hd,h2]
   exact this.put (XP hn) (.own0 b)
  refine⟨.slice (some ⟨B.b,B.off,none⟩) rs.length B.cap,w,φ,hexec _ _ _ _ _ h1 (by rw[hp];exact Tf hu hi _ p _ _ c hcap),?_⟩
  have:=hr.reset b (.arr i.size rs) ⟨_,hb⟩ (.inl ⟨B,hB,hr.block hB hb⟩)
  rw[hd]
  exact this.put (XP hn) (.own b _ B hB hcap)
 have hpos2:0<us.length:=List.length_pos_iff.2 h0
 obtain⟨p,c,D,hyv,hnews,hcells,hone,hokU,hrowU⟩:∃(p:Addr) (cap:Nat) (D:L_ Value),a.eval y=.slice (some p) us.length cap/\D.length=us.length*i.size/\(∀(j:Nat) u,D[j]? = some u->w.cell? (p.add j)=some u)/\(∀u∈D,u.oneCell'=true)/\
   (∀r∈us,Er i.size r)/\∀(k:Nat) r,us[k]? = some r->∀(j:Nat) v,r[j]? = some v->∃u,D[k*i.size+j]? = some u/\Xy (Xj C φ w) w u v:=by
  rcases hy φ a w hr with⟨_,_,_,h⟩|h
  ·exact absurd h h0
  exact h
 rcases hown with⟨h1,h2⟩|⟨B,hB,hcap,h1⟩
 ·
  have hrs:rs=[]:=Qg9 h2
  subst hrs
  have hrun:=run_append_nil (P:=P) w T o.type e i zv hu hi hz' p us.length c D hnews hcells hpos2 (by omega) (by
   have:us.length*i.bytes<=140737488355328:=by simpa using hbytes
   omega)
  have hge:=grownCap_ge w us.length 0 e
  simp only[PT,HG,Ej]
  refine⟨_,_,ext (EP φ b) b ⟨w.heap.size,grownCap w us.length 0 e,i.size,[],0⟩,hexec none 0 0 _ _ h1 (by rw[hyv];exact hrun),?_⟩
  rw[hd]
  obtain⟨g1,g2⟩:=OG (I:=Xj C φ w) (w:=w) (n:=0) (rs:=[]) (olds:=[]) (rest:=(Builtin.zeroCells zv.cells (grownCap w us.length 0 e-us.length)).toList) rfl (by simp) (by simp) hokU hnews (by simp) hrowU
  have hmv:=hr.moved (b:=b) (cap:=grownCap w us.length 0 e) (z:=i.size) (E:=e) (cells:=D.toArray++Builtin.zeroCells zv.cells (grownCap w us.length 0 e-us.length)) (rs:=us) hb2 _ rfl
   (Yn.mk0 rfl rfl hge hokU _ e (heap_alloc_new w.drew _) (by simp[size_zeroCells,hzs,hnews,<-Jf];congr 1;omega) λk r hk j v hj=>by
    obtain⟨u,hu1,hu2⟩:=g2 k r (by simpa using hk) j v hj
    refine⟨u,?_,Xy.mono (w:=w) (λk hk=>⟨hk,Below.heap_alloc w.drew _ _ hk.1⟩) hu2⟩
    rw[<-hu1]
    simp[<-TX])
  exact hmv.put (XP hn) (.own b us.length ⟨w.heap.size,_,i.size,[],0⟩ (XD _ _ _) hge)
 obtain⟨hBz,hrl,hok,cs,E,e1,e2,e3⟩:=hr.block hB hb
 have hle2:B.off+rs.length*i.size<=cs.size:=Kj (Nat.add_le_add_left (JA _ hrl) _) e2
 have hol:((cs.toList.drop B.off).take (rs.length*i.size)).length=rs.length*i.size:=by simp;omega
 have hold:∀(k:Nat) r,rs[k]? = some r->∀(j:Nat) v,r[j]? = some v->∃u,((cs.toList.drop B.off).take (rs.length*i.size))[k*i.size+j]? = some u/\Xy (Xj C φ w) w u v:=λk r hk j v hj=>by
  obtain⟨u,hu1,hu2⟩:=e3 k r hk j v hj
  have hkl:k<rs.length:=(Xe.1 hk).1
  have hjz:j<i.size:=by have:=(Xe.1 hj).1;rwa[(hok r (XU hk)).1]at this
  have hlt:k*i.size+j<rs.length*i.size:=by
   have:(k+1)*i.size<=rs.length*i.size:=JA _ hkl
   rw[Jf]at this;omega
  exact⟨u,by rw[Jy,if_pos hlt,Gf];simpa using hu1,hu2⟩
 by_cases hroom:rs.length+us.length<=B.cap
 ·
  have hfit:B.off+rs.length*i.size+D.length<=cs.size:=by
   refine Kj ?_ e2;rw[hnews,Mw,<-Jf];exact Nat.add_le_add_left (JA _ hroom) _
  have hrun:=Tg (P:=P) (ty:=o.type) hu hi B.b B.off rs.length B.cap cs e1 p us.length c D hnews hcells hone hroom hfit
  refine⟨_,_,φ,hexec _ _ _ _ _ h1 (by rw[hyv];exact hrun),?_⟩
  obtain⟨g1,g2⟩:=OG (I:=Xj C φ w) (w:=w) (n:=rs.length) (rs:=rs) (olds:=(cs.toList.drop B.off).take (rs.length*i.size)) (rest:=cs.toList.drop (B.off+rs.length*i.size+D.length)) rfl
   hol hok hokU hnews hold hrowU
  have hne:∀k,Xj C φ w k->k≠B.b:=λk hk e=>hk.2.2 b B hB (.inl e)
  have hwr:=hr.write (ob:=.arr i.size (rs++us)) (w':=w.setRow B.b (cs.toList.take (B.off+rs.length*i.size)++D++cs.toList.drop (B.off+rs.length*i.size+D.length)).toArray) hB rfl rfl rfl (by simp)
   (λk hk=>setRow_other w B.b k _ hk) ⟨hBz,by simpa using hroom,g1,_,E,setRow_heap w B.b cs _ E _ e1,by simp;omega,λk r hk j v hj=>by
    obtain⟨u,hu1,hu2⟩:=g2 k r hk j v hj
    refine⟨u,by rw[<-hu1];simp only[UA];rw[List.take_add,De,De,Jx (by simp;omega)];congr 1;simp;omega,hu2.mono λk hk=>⟨⟨by simpa using hk.1,hk.2⟩,setRow_other w B.b k _ (hne k hk)⟩⟩⟩
  have hre:=hwr.reset b (.arr i.size (rs++us)) ⟨_,St.look_set_same _ _ _⟩ (.inl ⟨B,hB,hwr.block hB (St.look_set_same _ _ _)⟩)
  rw[St.set_kill]at hre
  rw[hd]
  exact hre.put (XP hn) (.own b _ B hB hroom)
 
 have hoc:∀(j:Nat) v,((cs.toList.drop B.off).take (rs.length*i.size))[j]? = some v->w.cell? ((⟨B.b,B.off,none⟩:Addr).add j)=some v:=by
  intro j v hj
  rw[Jy]at hj
  by_cases h:j<rs.length*i.size
  ·rw[if_pos h,Gf]at hj
   simp[Addr.add_lit,World.cell?,e1];simpa using hj
  rw[if_neg h]at hj;simp at hj
 have hrun:=run_append_grow (P:=P) w T o.type e i zv hu hi hz' ⟨B.b,B.off,none⟩ rs.length B.cap _ hol hoc p us.length c D hnews hcells (by omega) (by omega) (growslice_fits (by omega) hbytes)
 have hge:=grownCap_ge w (rs.length+us.length) B.cap e
 refine⟨_,_,ext (EP φ b) b ⟨w.heap.size,grownCap w (rs.length+us.length) B.cap e,i.size,[],0⟩,hexec _ _ _ _ _ h1 (by rw[hyv];exact hrun),?_⟩
 obtain⟨g1,g2⟩:=OG (I:=Xj C φ w) (w:=w) (n:=rs.length) (rs:=rs) (olds:=(cs.toList.drop B.off).take (rs.length*i.size))
  (rest:=(Builtin.zeroCells zv.cells (grownCap w (rs.length+us.length) B.cap e-(rs.length+us.length))).toList) rfl hol hok hokU hnews hold hrowU
 have hmv:=hr.moved (b:=b) (cap:=grownCap w (rs.length+us.length) B.cap e) (z:=i.size) (E:=e)
  (cells:=((cs.toList.drop B.off).take (rs.length*i.size)).toArray++D.toArray++Builtin.zeroCells zv.cells (grownCap w (rs.length+us.length) B.cap e-(rs.length+us.length))) (rs:=rs++us) hb2 _ rfl
  (Yn.mk0 rfl rfl (by simpa using hge) g1 _ e (heap_alloc_new w.drew _) (by
   simp only[Array.size_append,Ta,hol,hnews,size_zeroCells,hzs,<-Jf];congr 1;omega) λk r hk j v hj=>by
   obtain⟨u,hu1,hu2⟩:=g2 k r hk j v hj
   refine⟨u,?_,Xy.mono (w:=w) (λk hk=>⟨hk,Below.heap_alloc w.drew _ _ hk.1⟩) hu2⟩
   rw[<-hu1,<-TX]
   simp[De])
 rw[hd]
 exact hmv.put (XP hn) (.own b _ ⟨w.heap.size,_,i.size,[],0⟩ (XD _ _ _) hge)
def Qf.appendB {T U d e e' z z' by_ by' b n m:Nat}{x y:Operand}{rs us rs':L_ (L_ V)}{zs:L_ V}(ho:o.op=.call { callee:=.builtin .append,args:=#[x,y],argTypes:=#[T,U] })
  (hd:o.dst=some d) (hn:B_ d C) (hx:σ.opd x=some (.own b n)) (hb:look σ.hp b=some (.arr z rs)) (D:Nat.ble 617 b=false) (hnl:rs.length=n)
  (hT:Yo P T=some (e,z,by_)) (hU:Yo P U=some (e',z',by')) (hz:XX P e=some zs) (hzl:zs.length=z) (hz0:z≠0) (hsm:n+us.length<=140737488355328) (h:(n+us.length)*by_<=140737488355328)
  (hy:∀φ a w,RR C φ σ a w->Qbg φ (Xj C φ w) w (a.eval y) z us) (he:rs++us=rs') (hm:n+us.length=m):Qf P C o σ (σ.app b z d m rs'):=
 Qf.val (Qek ho hd hn hx hb D hnl hT hU hz hzl hz0 hsm h hy he hm)
def Qf.append {T U d e e' z z' by_ by' b n m:Nat}{x y:Operand}{rs us rs':L_ (L_ V)}{zs:L_ V}(ho:o.op=.call { callee:=.builtin .append,args:=#[x,y],argTypes:=#[T,U] })
  (hd:o.dst=some d) (hn:B_ d C) (hx:σ.opd x=some (.own b n)) (hb:look σ.hp b=some (.arr z rs)) (D:Nat.ble 617 b=false) (hnl:rs.length=n)
  (hT:Yo P T=some (e,z,by_)) (hU:Yo P U=some (e',z',by')) (hz:XX P e=some zs) (hzl:zs.length=z) (hz0:z≠0) (hby:by_<=32768) (h:n+us.length<=4294967296)
  (hy:∀φ a w,RR C φ σ a w->Qbg φ (Xj C φ w) w (a.eval y) z us) (he:rs++us=rs') (hm:n+us.length=m):Qf P C o σ (σ.app b z d m rs'):=
 Qf.val (Qek ho hd hn hx hb D hnl hT hU hz hzl hz0 (Kj h (by decide)) (Kj (Nat.mul_le_mul h hby) (by decide)) hy he hm)
end
structure Ins (S:Nat->Prop) (φ:Nat->Option Xa) (w:World) (vals:Array Value) (args:List V) (hs:List (Nat×Ob)):Prop where
 lt:∀k,S k->k<w.heap.size
 inj:∀o o' B B' k,φ o=some B->φ o'=some B'->B.has k->B'.has k->o=o'
 dom:∀o B,φ o=some B->615<=o/\(∀k,B.has k->k<w.heap.size/\¬S k)/\∃ob,look hs o=some ob
 size:vals.size=args.length
 args:∀(j:Nat) x v,vals[j]? = some x->args[j]? = some v->QO φ S w x v
 heap:∀o ob,look hs o=some ob->(∃B,φ o=some B/\JL φ S w B ob)\/(φ o=none/\ob.Nil)
def RC (S:Nat->Prop)(φ:Nat->O_ Xa)(w w':World)(k:Nat):Prop:=k<w'.heap.size/\(k<w.heap.size->S k)/\∀o B,φ o=some B->¬B.has k
structure Outs (S:Nat->Prop) (φ:Nat->Option Xa) (w:World) (φ':Nat->Option Xa) (w':World) (x:Value) (v:V) (hs:List (Nat×Ob)):Prop where
 os:w'.os=w.os
 tape:w'.tape=w.tape
 output:w'.output=w.output
 size:w.heap.size<=w'.heap.size
 kept:∀k,k<w.heap.size->(∀o B,φ o=some B->¬B.has k)->w'.heap[k]? = w.heap[k]?
 inj:∀o o' B B' k,φ' o=some B->φ' o'=some B'->B.has k->B'.has k->o=o'
 dom:∀o B,φ' o=some B->∃ob,look hs o=some ob
 lt:∀o B k,φ' o=some B->B.has k->k<w'.heap.size/\(k<w.heap.size->∃o' B',φ o'=some B'/\B'.has k)
 new:∀o B k,φ' o=some B->B.has k->o<615->w.heap.size<=k
 stay:Tb φ φ' hs
 rep:QO φ' (RC S φ' w w') w' x v
 heap:∀o ob,look hs o=some ob->(∃B,φ' o=some B/\JL φ' (RC S φ' w w') w' B ob)\/(φ' o=none/\ob.Nil)
def QlE (P:Program):O_ Nat:=P.globalNamed "strings.asciiSpace"
def NK (P:Program)(S:Nat->Prop)(w:World):Prop:=∀g,QlE P=some g->S g/\g<w.heap.size/\∀c:Nat,c<256->w.cell? ⟨g,c,none⟩=some (.int .u8 (if Lib.isSp (UInt8.ofNat c)then 1 else 0))
def NK.mono {P:Program}{S y:Nat->Prop}{w:World}(h:NK P S w)(hs:∀k,S k->y k):NK P y w:=λg D=>let ⟨a,b⟩:=h g D;⟨hs g a,b⟩
def XA.pg (C:XA)(P:Program):Prop:=NK P C.S C.w0/\∀g,QlE P=some g->¬C.W g
structure Jq (P:Program) (C:XA) (n:Nat):Prop where
 n:C.n=n
 g:C.pg P
def QI {n m d:Nat}(h:m=n)(e:Nat.ble (d+1) n=true):Nat.ble (d+1) m=true:=h▸e
def RR.glob {P:Program}{C:XA}{φ:Nat->O_ Xa}{σ:St}{a:Act}{w:World}(y:RR C φ σ a w)(D:C.pg P):NK P (Xj C φ w) w:=λg h=>by
 obtain⟨s,l,c⟩:=D.1 g h
 have nW:=D.2 g h
 refine⟨⟨Aj l y.size,λ_=>s,λo B hB hb=>nW ((y.lt o B g hB hb).2 l)⟩,Aj l y.size,λi hi=>?_⟩
 rw[World.cell?_of_block (y.kept g l nW)]
 exact c i hi
def QX (P:Program)(f:FuncId)(args:L_ V)(hs:H_)(D:V->H_->Prop):Prop:=
 ∀(S:Nat->Prop) (φ:Nat->O_ Xa) (w:World) (h:Array Value),Ins S φ w h args hs->NK P S w->
  Calls P f h w λe w'=>∃x v y φ',e=.returned x/\D v y/\Outs S φ w φ' w' x v y
def JG (β:Nat)(P:Program)(f:FuncId)(args:L_ V)(hs:H_)(D:V->H_->Prop):Prop:=
 ∀(S:Nat->Prop) (φ:Nat->O_ Xa) (w:World) (h:Array Value),β<=w.heap.size->Ins S φ w h args hs->NK P S w->
  Calls P f h w λe w'=>∃x v y φ',e=.returned x/\D v y/\Outs S φ w φ' w' x v y
def QX.b {P:Program}{f:FuncId}{args:L_ V}{hs:H_}{y:V->H_->Prop}{β:Nat}(h:QX P f args hs y):JG β P f args hs y:=λS φ w D _=>h S φ w D
def JG.a {P:Program}{f:FuncId}{args:L_ V}{hs:H_}{y:V->H_->Prop}(h:JG 0 P f args hs y):QX P f args hs y:=λS φ w D=>h S φ w D (Nat.zero_le _)
def JG.mono {P:Program}{f:FuncId}{args:L_ V}{hs:H_}{D y:V->H_->Prop}{β:Nat}(h:JG β P f args hs D)(hp:∀v hs,D v hs->y v hs):JG β P f args hs y:=
 λS φ w vals hβ hi hG=>(h S φ w vals hβ hi hG).mono λ_ _ ⟨x,v,hs',φ',h1,h2,h3⟩=>⟨x,v,hs',φ',h1,hp v hs' h2,h3⟩
def QX.mono {P:Program}{f:FuncId}{args:L_ V}{hs:H_}{D y:V->H_->Prop}(h:QX P f args hs D)(hp:∀v hs,D v hs->y v hs):QX P f args hs y:=
 λS φ w vals hi hG=>(h S φ w vals hi hG).mono λ_ _ ⟨x,v,hs',φ',h1,h2,h3⟩=>⟨x,v,hs',φ',h1,hp v hs' h2,h3⟩
def LH : Nat->L_ V->S_
 | _,[]=>[]
 | k,v::r=>(k,v)::LH (k+1) r
def Qgn : ∀(l:L_ V) (k t:Nat) (v:V),look (LH k l) t=some v->k<=t/\l[t-k]? = some v:=by
 intro l
 induction l with
 | nil=>intro k t v h;cases h
 | cons u l D=>
  intro k t v h
  by_cases e:k=t
  ·subst e;rw[LH,QC]at h;cases h;simp
  rw[LH,QA _ _ e]at h
  obtain⟨h1,y⟩:=D (k+1) t v h
  refine⟨by omega,?_⟩
  rw[show t-k=(t-(k+1))+1 by omega];simpa using y
def Res (P:Program)(σ:St):L_ ResultVar->L_ V->Prop
 | [],[]=>True
 | .tmp t::r,v::vs=>look σ.fr t=some v/\Res P σ r vs
 | .cell p T::r,v::vs=>(∃b h,look σ.fr p=some (.loc b 0 0)/\look σ.hp b=some (.var h)/\((Ea P T=some true/\UC P T=some h.length/\v=.agg h)\/(Ea P T=some false/\h=[v])))/\Res P σ r vs
 | _,_=>False
def Qfy : L_ V->V
 | [v]=>v
 | vs=>.tup vs
def Va (P:Program)(y:L_ ResultVar)(h:V->H_->Prop):Exit->St->Prop
 | .normal,σ=>∃vs,Res P σ y vs/\h (Qfy vs) σ.hp
 | .ret,σ=>∃vs,Res P σ y vs/\h (Qfy vs) σ.hp
 | _,_=>False
def LI (tmps:Array Value):ResultVar->Sem Value
 | .tmp t=>pure (tmps.getD t undef)
 | .cell a t=>do loadVar t (<-asAddr (tmps.getD a undef))
section
variable {P:Program}{C:XA}{φ:Nat->O_ Xa}{σ:St}{a:Act}{w:World}
def RR.resList (hr:RR C φ σ a w):∀(rv:L_ ResultVar) (vs:L_ V),Res P σ rv vs->
  ∃xs:L_ Value,(rv.mapM (LI a.tmps)).run P w=.ok xs w/\xs.length=vs.length/\∀(j:Nat) x v,xs[j]? = some x->vs[j]? = some v->QO φ (Xj C φ w) w x v:=by
 intro rv
 induction rv with
 | nil=>
  intro vs h
  cases vs with
  | nil=>exact⟨[],rfl,rfl,by simp⟩
  | cons=>cases h
 | cons r rv ih=>
  intro vs h
  cases vs with
  | nil=>cases r<;>cases h
  | cons v vs=>
   have key:∃x,(LI a.tmps r).run P w=.ok x w/\QO φ (Xj C φ w) w x v/\Res P σ rv vs:=by
    cases r with
    | tmp t=>
     obtain⟨h1,h2⟩:=h
     obtain⟨x,hx,hrep⟩:=hr.frame t v h1
     exact⟨x,by simp[LI,TV,hx],hrep,h2⟩
    | cell p T=>
     obtain⟨⟨b,cs,h1,h2,h3⟩,h4⟩:=h
     obtain⟨x,hx,hrep⟩:=hr.frame p _ h1
     obtain⟨B,hB,rfl⟩:=hrep.loc_inv
     obtain⟨xs,E,e1,e2,e0,e3⟩:=hr.block hB h2
     have D:∀y,(Instr.loadAt T (.pointer (some ⟨B.b,B.off+(0*B.z+0),none⟩))).run P w=.ok y w->(LI a.tmps (.cell p T)).run P w=.ok y w:=by
      intro y hy
      simp only[LI,TV,hx,OR,asAddr,Xf,Xx,Xl]
      simpa only[Instr.loadAt,Instr.sureAddr,Xf,Xx,Xl] using hy
     rcases h3 with⟨g1,g2,rfl⟩|⟨g1,rfl⟩
     ·have hc:∀j,j<cs.length->w.cell? ((⟨B.b,B.off+(0*B.z+0),none⟩:Addr).add j)=some (xs.getD j undef):=by
       intro j hj
       have:j<xs.size:=by omega
       simp[Addr.add_lit,World.cell?,e1,Array.getD,this,e0]
      refine⟨_,D _ (OE _ g1 g2 hc),.agg _ _ (by simp) λj y u hy hu=>?_,h4⟩
      simp only[UA,Yb,XZ,Xe,Qcl,Qck]at hy
      obtain⟨_,⟨hj,rfl⟩,rfl⟩:=hy
      have hlt:j<xs.size:=by omega
      exact e3 j _ u (by simp[Array.getD,hlt]) hu
     have hlt:0<xs.size:=by rw[e2];simp
     exact⟨xs[0],D _ (CO g1 (by simp[World.cell?,e1,hlt,e0])),e3 0 _ _ (GZ hlt) rfl,h4⟩
   obtain⟨x,h1,h2,h3⟩:=key
   obtain⟨xs,h4,h5,h6⟩:=ih vs h3
   refine⟨x::xs,by rw[List.mapM_cons];simp only[Xf,h1,Xl,h4,Xx],by simp[h5],λj y u hy hu=>?_⟩
   cases j with
   | zero=>simp at hy hu;subst hy;subst hu;exact h2
   | succ j=>exact h6 j y u hy hu
def RR.result (hr:RR C φ σ a w){fn:Func}{vs:L_ V}(h:Res P σ fn.results.toList vs):∃x,(results fn a.tmps).run P w=.ok x w/\QO φ (Xj C φ w) w x (Qfy vs):=by
 obtain⟨xs,h1,h2,h3⟩:=hr.resList fn.results.toList vs h
 have hm:(fn.results.mapM (LI a.tmps)).run P w=.ok xs.toArray w:=by
  rw[Array.mapM_eq_mapM_toList,Sem.run_map,h1];rfl
 have D:(results fn a.tmps).run P w=.ok (if h:xs.toArray.size=1 then xs.toArray[0]else .tuple xs.toArray) w:=by
  have:results fn a.tmps=(do
    let vs <-fn.results.mapM (LI a.tmps)
    pure (if h:vs.size=1 then vs[0]else .tuple vs)):=by
   unfold results
   congr 1
  rw[this]
  simp only[Xf,hm,Xl,Xx]
 refine⟨_,D,?_⟩
 by_cases y:xs.toArray.size=1
 ·rw[dif_pos y]
  have:∃v,vs=[v]:=List.length_eq_one_iff.1 (by rw[<-h2];simpa using y)
  obtain⟨v,rfl⟩:=this
  have hl:0<xs.length:=by rw[h2];simp
  refine h3 0 _ v ?_ rfl
  simp[QR hl]
 rw[dif_neg y]
 have:Qfy vs=.tup vs:=by
  cases vs with
  | nil=>rfl
  | cons v vs=>cases vs with
   | nil=>exact absurd (by simpa using h2) y
   | cons=>rfl
 rw[this]
 exact .tup _ _ (by simpa using h2) λj x v hx hv=>h3 j x v (by simpa using hx) hv
def RR.unmark {ts:Array Value}{Ds:L_ Nat}{D:Nat}(hn:(D::Ds).Nodup)(hm:∀D'∈D::Ds,C.w0.heap.size<=D'/\Xj C φ w D'/\w.heap[D']? = some (.deferred (some [])))
  {ds:L_ Deferred} (y:RR C φ σ ⟨ts,ds⟩ w):RR C φ σ ⟨ts,Ds.map (λD=>{ target:=.collected D,args:=#[] })⟩ (w.putObj D (.deferred none)):=by
 obtain⟨hD0,hD1,hD2⟩:=hm D YF
 have ho:∀k,k≠D->(w.putObj D (.deferred none)).heap[k]? = w.heap[k]? := λk hk=>World.putObj_heap_other hk
 have hsz:(w.putObj D (.deferred none)).heap.size=w.heap.size:=World.putObj_size
 have hI:∀k,Xj C φ w k->Xj C φ (w.putObj D (.deferred none)) k/\Kp w (w.putObj D (.deferred none)) k:=λk hk=>by
  refine⟨⟨by rw[hsz];exact hk.1,hk.2⟩,?_⟩
  by_cases e:k=D
  ·subst e
   refine⟨λi=>?_,λcs E h=>?_⟩
   ·simp only[World.cell?,World.putObj_heap_same hD1.1,hD2]
   rw[hD2]at h;cases h
  exact Kp.of (ho k e)
 have hob:∀o B k,φ o=some B->B.has k->(w.putObj D (.deferred none)).heap[k]? = w.heap[k]? := λo B k hB hk=>ho k λe=>hD1.2.2 o B hB (e▸hk)
 refine⟨y.os,y.tape,y.output,by rw[hsz];exact y.size,λk h1 h2=>(ho k (by omega)).trans (y.kept k h1 h2),y.inj,y.dom,λo B k hB hk=>by rw[hsz];exact y.lt o B k hB hk,y.new,y.stay,y.tmps,
  ⟨Ds,rfl,(Ft.1 hn).2,λD' hD'=>?_⟩,λt v hv=>?_,λo ob hob'=>?_⟩
 ·obtain⟨a1,a2,a3⟩:=hm D' (Jz _ hD')
  exact⟨a1,⟨by rw[hsz];exact a2.1,a2.2⟩,(ho D' λe=>(Ft.1 hn).1 (e▸hD')).trans a3⟩
 ·obtain⟨x,hx,hrep⟩:=y.frame t v hv
  exact⟨x,hx,hrep.monoC (λ_ _ h=>h) hI⟩
 rcases y.heap o ob hob' with⟨B,hB,hrep⟩|hn
 ·exact .inl ⟨B,hB,hrep.monoC (λ_ _ h=>h) hI (λk hk=>hob o B k hB hk)⟩
 exact .inr hn
def JG.enter {β:Nat}{f:FuncId}{fn:Func}{c:Code}{n:Nat}{args:L_ V}{hs:H_}{post:V->H_->Prop}(hf:P.funcs[f]? = some fn)(hb:fn.body=some c)(hn:fn.ntmps=n)
  (hle:Nat.ble args.length n=true) (hsm:Nat.ble n 617=true) (h:∀C:XA,Jq P C n->C.rnd=none->β<=C.w0.heap.size->Ys P C c ⟨LH 0 args,hs⟩ (Va P fn.results.toList post)):JG β P f args hs post:=by
 intro S φ w vals hβ hi hG
 have hle:=JK hle
 refine(callsIn_wide (n:=0)).1 (callsIn_of_wp_marks hf hb trivial ?_)
 let C:XA:=⟨w,S,λk=>∃o B,φ o=some B/\B.has k,n,φ,JK hsm,none⟩
 have hI:∀k,S k->Xj C φ w k/\w.heap[k]? = w.heap[k]? := λk hk=>⟨⟨hi.lt k hk,λ_=>hk,λo B hB e=>((hi.dom o B hB).2.1 k e).2 hk⟩,rfl⟩
 have hR:R C ⟨LH 0 args,hs⟩ { tmps:=vals++Array.replicate (fn.ntmps-vals.size) undef,defers:=[] } w:=by
  refine⟨φ,rfl,rfl,rfl,YZ _,λ_ _ _=>rfl,hi.inj,λo B hB=>(hi.dom o B hB).2.2,λo B k hB hk=>⟨((hi.dom o B hB).2.1 k hk).1,λ_=>⟨o,B,hB,hk⟩⟩,λo B k hB hk hlt=>absurd (hi.dom o B hB).1 (by omega),⟨λ_ _ _ h=>h,λ_ _ _ _ _ h=>h⟩,
   by simp[hi.size,hn];show _=n;omega,⟨[],rfl,List.nodup_nil,λ_ h=>by cases h⟩,λt v hv=>?_,λo ob hob=>?_⟩
  ·obtain⟨_,h2⟩:=Qgn args 0 t v hv
   rw[Nat.sub_zero]at h2
   have hlt:t<vals.size:=by rw[hi.size];exact(Xe.1 h2).1
   refine⟨vals[t],?_,(hi.args t _ v (GZ hlt) h2).mono (λ_ _ h=>h) hI⟩
   simp[Array.getElem?_append,hlt]
  rcases hi.heap o ob hob with⟨B,hB,hr⟩|hn
  ·exact .inl ⟨B,hB,hr.mono (λ_ _ h=>h) hI λ_ _=>rfl⟩
  exact .inr hn
 have hok:Jq P C n:=⟨rfl,hG,λg hg ⟨o,B,hB,hb⟩=>((hi.dom o B hB).2.1 g hb).2 (hG g hg).1⟩
 refine wpIn_mono (h C hok rfl hβ _ _ hR) ?_
 rintro e a' w' ⟨σ',hq,φ',hr⟩
 have done:(∃vs,Res P σ' fn.results.toList vs/\post (Qfy vs) σ'.hp)->LeavesInM Fence.wide 0 P fn a'.tmps (λe w'=>∃x v hs' φ',e=.returned x/\post v hs'/\Outs S φ w φ' w' x v hs') a'.defers .returning w':=by
  rintro ⟨vs,h1,h2⟩
  obtain⟨Ds,hds,hnd,hm⟩:=hr.defers
  obtain⟨ts,ds⟩:=a'
  simp only at hds
  subst hds
  simp only
  revert w'
  induction Ds with
  | nil=>
   intro w' hm hr
   obtain⟨x,h3,h4⟩:=hr.result (P:=P) h1
   exact⟨x,h3,x,Qfy vs,σ'.hp,φ',rfl,h2,hr.os,hr.tape,hr.output,hr.size,λk hk hne=>hr.kept k hk (λ⟨o,B,hB,e⟩=>hne o B hB e),hr.inj,hr.dom,
    λo B k hB hk=>⟨(hr.lt o B k hB hk).1,λhlt=>(hr.lt o B k hB hk).2 hlt⟩,hr.new,hr.stay,h4,hr.heap⟩
  | cons D Ds ih=>
   intro w' hm hr
   refine⟨by simp,.inl ⟨D,w'.putObj D (.deferred none),rfl,run_takeDeferred (hm D YF).2.2,?_⟩⟩
   have hr':=hr.unmark hnd hm
   obtain⟨Ds',e1,e2,e3⟩:=hr'.defers
   refine ih (Ft.1 hnd).2 _ ?_ hr'
   have:Ds'=Ds:=by
    have inj:∀(l l':L_ Nat),l.map (λD=>({ target:=.collected D,args:=#[] }:Deferred))=l'.map (λD=>{ target:=.collected D,args:=#[] })->l=l':=by
     intro l
     induction l with
     | nil=>intro l' h;cases l' with
      | nil=>rfl
      | cons=>cases h
     | cons x l ih=>intro l' h;cases l' with
      | nil=>cases h
      | cons y l'=>simp only[GK,List.cons.injEq,Deferred.mk.injEq]at h;injection h.1.1 with h1;rw[h1,ih l' h.2]
    exact(inj _ _ e1).symm
   rw[<-this];exact e3
 cases e with
 | normal=>exact done hq
 | ret=>exact done hq
 | _=>exact hq.elim
def QX.enter {f:FuncId}{fn:Func}{c:Code}{n:Nat}{args:L_ V}{hs:H_}{y:V->H_->Prop}(hf:P.funcs[f]? = some fn)(hb:fn.body=some c)(hn:fn.ntmps=n)
  (D:Nat.ble args.length n=true) (hsm:Nat.ble n 617=true) (h:∀C:XA,Jq P C n->C.rnd=none->Ys P C c ⟨LH 0 args,hs⟩ (Va P fn.results.toList y)):QX P f args hs y:=
 (JG.enter hf hb hn D hsm λC h1 h2 _=>h C h1 h2).a
end
def V.datC : V->Bool
 | .agg h=>h.all V.dat
 | v=>v.dat
def V.datA : V->Bool
 | .tup h=>h.all V.datC
 | v=>v.datC
def V.sca : V->Bool
 | .b _=>true
 | .i _ _=>true
 | .s _=>true
 | .J=>true
 | .lit _=>true
 | _=>false
def V.scaC : V->Bool
 | .agg h=>h.all V.sca
 | v=>v.sca
def V.scaA : V->Bool
 | .tup h=>h.all V.scaC
 | v=>v.scaC
section
variable {φ φ':Nat->O_ Xa}{I I':Nat->Prop}{w w':World}{x:Value}{v:V}
def QO.datC (h:QO φ I w x v)(D:v.datC=true)(hI:∀k,I k->I' k/\w'.heap[k]? = w.heap[k]?):QO φ' I' w' x v:=by
 cases v with
 | agg cs=>
  obtain⟨xs,rfl,hs,hr⟩:=h.agg_inv
  rw[V.datC,XE]at D
  exact .agg xs cs hs λj x v hx y=>.dat (((hr j x v hx y).toDat (D v (XU y))).mono hI)
 | _=>exact .dat ((h.toDat D).mono hI)
def QO.datA (h:QO φ I w x v)(D:v.datA=true)(hI:∀k,I k->I' k/\w'.heap[k]? = w.heap[k]?):QO φ' I' w' x v:=by
 cases v with
 | tup cs=>
  obtain⟨xs,rfl,hs,hr⟩:=h.tup_inv
  rw[V.datA,XE]at D
  exact .tup xs cs hs λj x v hx y=>(hr j x v hx y).datC (D v (XU y)) hI
 | _=>exact h.datC D hI
def QO.sca (h:QO φ I w x v)(D:v.sca=true):QO φ' I' w' x v:=by
 cases v with
 | b y=>rw[h.b_inv];exact .dat (.b _)
 | i k n=>rw[h.i_inv];exact .dat (.i _ _)
 | s y=>rw[h.s_inv];exact .dat (.s _)
 | lit y=>rw[h.lit_inv];exact .dat (.lit _)
 | J=>exact .dat (.J _)
 | _=>simp[V.sca]at D
def Xy.sca (h:Xy I w x v)(D:v.sca=true):Xy I' w' x v:=by
 cases v with
 | b y=>cases h;exact .b _
 | i k n=>cases h;exact .i _ _
 | s y=>cases h;exact .s _
 | lit y=>cases h;exact .lit _
 | J=>exact .J _
 | _=>simp[V.sca]at D
def QO.scaC (h:QO φ I w x v)(D:v.scaC=true):QO φ' I' w' x v:=by
 cases v with
 | agg cs=>
  obtain⟨xs,rfl,hs,hr⟩:=h.agg_inv
  rw[V.scaC,XE]at D
  exact .agg xs cs hs λj x v hx y=>(hr j x v hx y).sca (D v (XU y))
 | _=>exact h.sca D
def QO.scaA (h:QO φ I w x v)(D:v.scaA=true):QO φ' I' w' x v:=by
 cases v with
 | tup cs=>
  obtain⟨xs,rfl,hs,hr⟩:=h.tup_inv
  rw[V.scaA,XE]at D
  exact .tup xs cs hs λj x v hx y=>(hr j x v hx y).scaC (D v (XU y))
 | _=>exact h.scaC D
end
inductive NL (hp:List (Nat×Ob)) (g:Bool):V->V->Prop where
 | dat (v:V):v.datA=true->NL hp g v v
 | nil (z:Nat):NL hp g (.lit (.slice none 0 0)) (.sl z [])
 | own (b n z:Nat) (rs us:List (List V)):g=true->look hp b=some (.arr z rs)->n<=rs.length->rs.take n=us->NL hp g (.own b n) (.sl z us)
 | nst (b:Nat) (x:Value) (v:V):g=true->look hp b=some (.nst x v)->NL hp g (.lit x) v
 | agg (cs us:List V):cs.length=us.length->(∀(j:Nat) c u,cs[j]? = some c->us[j]? = some u->NL hp g c u)->NL hp g (.agg cs) (.agg us)
 | clo (fn:Fn):NL hp g (.clo fn [] []) (.clo fn [] [])
def Qhh (C:XA)(φ:Nat->O_ Xa)(w:World)(g:Bool)(k:Nat):Prop:=Xj C φ w k\/(g=true/\∃o B,φ o=some B/\B.has k)
section
variable {P:Program}{C:XA}{φ:Nat->O_ Xa}{σ:St}{a:Act}{w:World}{o:Oper}
def NL.sound {g:Bool}{v u:V}(hr:RR C φ σ a w)(h:NL σ.hp g v u):∀{x:Value},QO φ (Xj C φ w) w x v->QO (λ_=>none) (Qhh C φ w g) w x u:=by
 induction h with
 | dat v hv=>exact λD=>D.datA hv λk hk=>⟨.inl hk,rfl⟩
 | nil z=>intro x D;rw[D.lit_inv];exact .dat (.sl0 _ _ _)
 | own b n z rs us hg hb hle hu=>
  intro x D
  subst hu
  rcases D.own_inv with⟨rfl,rfl⟩|⟨B,hB,hcap,rfl⟩
  ·simp only[List.take_zero];exact .dat (.sl0 _ _ _)
  obtain⟨rfl,hrl,hok,cs,E,h1,h2,h3⟩:=hr.block hB hb
  refine .dat (.sl B.b B.off n B.cap B.z _ (λj=>cs.getD (B.off+j) undef) (.inr ⟨hg,b,B,hB,B.self⟩) (by simp;omega) hcap (λr hr'=>hok r (Ai hr')) (λj hj=>?_) (λi r hi j v hj=>?_))
  ·have hle2:n*B.z<=B.cap*B.z:=JA _ hcap
   have:B.off+j<cs.size:=by omega
   simp[World.cell?,h1,Array.getD,this]
  have hi':rs[i]? = some r:=by
   rw[Jy]at hi
   by_cases hin:i<n
   ·rwa[if_pos hin]at hi
   rw[if_neg hin]at hi;simp at hi
  obtain⟨y,hy,hd⟩:=h3 i r hi' j v hj
  have:cs.getD (B.off+(i*B.z+j)) undef=y:=by simp[TV,hy]
  rw[this]
  exact hd.mono λk hk=>⟨.inl hk,rfl⟩
 | nst b x v hg hb=>
  intro y hy
  rw[hy.lit_inv]
  rcases hr.heap b _ hb with⟨B,hB,hd⟩|⟨_,hn⟩
  ·exact .dat (Xy.mono (λk hk=>⟨.inr ⟨hg,b,B,hB,hk⟩,rfl⟩) hd.1)
  exact .dat (Xy.mono (λk hk=>hk.elim) (hn w))
 | agg cs us hl _ ih=>
  intro x D
  obtain⟨xs,rfl,hs,hc⟩:=D.agg_inv
  refine .agg xs us (by omega) λj y u hy hu=>?_
  have hj:j<cs.length:=by rw[<-hs];exact(Ud.1 hy).1
  exact ih j cs[j] u (QR hj) hu (hc j y _ hy (QR hj))
 | clo fn=>
  intro x D
  cases D with
  | dat d=>cases d
  | clo _ xs ys _ _ h1 h2 _ _=>exact .clo fn xs ys [] [] h1 h2 (λj y v _ h=>by simp at h) λj y v _ h=>by simp at h
def St.opsV (σ:St):L_ Operand->O_ (L_ V)
 | []=>some []
 | x::r=>match σ.opd x,σ.opsV r with
  | some v,some vs=>some (v::vs)
  | _,_=>none
def RR.opsV (hr:RR C φ σ a w):∀(xs:L_ Operand) (vs:L_ V),σ.opsV xs=some vs->xs.length=vs.length/\∀(j:Nat) x v,xs[j]? = some x->vs[j]? = some v->QO φ (Xj C φ w) w (a.eval x) v:=by
 intro xs
 induction xs with
 | nil=>intro vs h;simp only[St.opsV,Option.some.injEq]at h;subst h;simp
 | cons x xs ih=>
  intro vs h
  simp only[St.opsV]at h
  split at h
  ·rename_i v vs' hv hvs
   cases h
   obtain⟨h1,h2⟩:=ih vs' hvs
   refine⟨by simp[h1],λj y u hy D=>?_⟩
   cases j with
   | zero=>simp at hy D;subst hy;subst D;exact hr.opd hv
   | succ j=>exact h2 j y u hy D
  cases h
inductive Lp (hp:List (Nat×Ob)) (g:Bool):List V->List V->Prop where
 | nil:Lp hp g [] []
 | cons {v u:V} {vs us:List V}:NL hp g v u->Lp hp g vs us->Lp hp g (v::vs) (u::us)
def Lp.get {hp:H_}{g:Bool}:∀{vs us:L_ V},Lp hp g vs us->vs.length=us.length/\∀(j:Nat) v u,vs[j]? = some v->us[j]? = some u->NL hp g v u:=by
 intro vs us h
 induction h with
 | nil=>simp
 | cons h1 _ ih=>
  refine⟨by simp[ih.1],λj v u D y=>?_⟩
  cases j with
  | zero=>simp at D y;subst D;subst y;exact h1
  | succ j=>exact ih.2 j v u D y
def Vb (P:Program)(f:FuncId):Bool:=match P.funcs[f]? with
 | some fn=>!(fn.name == "runtime.NumGoroutine")&&fn.body.isSome
 | none=>false
def FW {f:FuncId}{args:Array Value}(h:Vb P f=true):(callFunc f args).run P w=.ok (.enter f args) w:=by
 unfold Vb at h
 split at h
 ·rename_i fn hf
  rw[QL]at h
  have h1:(fn.name == "runtime.NumGoroutine")=false:=by simpa using h.1
  have h2:fn.body.isNone=false:=by
   cases hb:fn.body with
   | none=>rw[hb]at h;simp at h
   | some=>rfl
  simp only[callFunc,Xf,run_program,Xl,hf,h1,h2]
  rfl
 cases h
def RR.called {g:Bool}{φ':Nat->O_ Xa}{w':World}{x:Value}{v:V}{hs:H_}(hr:RR C φ σ a w)(y:Outs (Qhh C φ w g) (λ_=>none) w φ' w' x v hs):RR C φ σ a w':=
 hr.step y.os y.tape y.output y.size λk D=>y.kept k D λ_ _ h=>by simp at h
def RC.imm {φ':Nat->O_ Xa}{w':World}(hr:RR C φ σ a w){k:Nat}(hk:RC (Qhh C φ w false) φ' w w' k):Xj C φ w' k:=by
 obtain⟨y,h2,h3⟩:=hk
 by_cases h:k<w.heap.size
 ·rcases h2 h with D | ⟨h,_⟩
  ·exact⟨y,D.2.1,D.2.2⟩
  cases h
 exact⟨y,λhlt=>absurd hr.size (by omega),λo B hB e=>by have:=(hr.lt o B k hB e).1;omega⟩
def YU (P:Program)(C:XA)(o:Oper)(σ:St)(f:FuncId)(vs:L_ V):Prop:=
 ∀φ a w,RR C φ σ a w->∃h:L_ Value,(execOp a.eval o).run P w=.ok (.enter f h.toArray) w/\h.length=vs.length/\
  ∀(j:Nat) x v,h[j]? = some x->vs[j]? = some v->QO φ (Xj C φ w) w x v
def Ins.of_viewsE {g:Bool}{vs us:L_ V}{y:L_ Value}(hr:RR C φ σ a w)(h1:y.length=vs.length)(h2:∀(j:Nat) x v,y[j]? = some x->vs[j]? = some v->QO φ (Xj C φ w) w x v)(hv:Lp σ.hp g vs us):
  Ins (Qhh C φ w g) (λ_=>none) w y.toArray us []:=by
 obtain⟨h3,h4⟩:=hv.get
 refine⟨λk D=>?_,λ_ _ _ _ _ h=>(by cases h),λ_ _ h=>(by cases h),by simp;omega,λj x u hx hu=>?_,λ_ _ h=>(by cases h)⟩
 ·rcases D with D | ⟨_,o,B,hB,D⟩
  ·exact D.1
  exact(hr.lt o B k hB D).1
 have hx:y[j]? = some x:=by simpa using hx
 have hlt:j<vs.length:=by rw[h3];exact(Xe.1 hu).1
 exact NL.sound hr (h4 j vs[j] u (QR hlt) hu) (h2 j x _ hx (QR hlt))
def Qf.callEB {β:Nat}(hβ:β<=C.w0.heap.size){f:FuncId}{d:Nat}{g:Bool}{vs us:L_ V}{r:V}(hE:YU P C o σ f vs)(hd:o.dst=some d)
  (hn:B_ d C) (hpg:C.pg P) (hv:Lp σ.hp g vs us) (hc:JG β P f us [] λv _=>v=r) (hres:(g=false/\r.datA=true)\/r.scaA=true):
  Qf P C o σ (σ.put d r):=by
 intro a w ⟨φ,hr⟩ next Q D
 refine⟨λ_ _=>trivial,?_⟩
 obtain⟨vals,hex,g1,g2⟩:=hE φ a w hr
 rw[VN hex,Oper.uponIn_enter]
 refine⟨(λh=>by cases h),VO ((hc _ _ w _ (Kj hβ hr.size) (Ins.of_viewsE hr g1 g2 hv) ((hr.glob hpg).mono λ_ h=>.inl h)).mono ?_)⟩
 rintro e w' ⟨x,v,hs',φ',rfl,rfl,y⟩
 refine D _ _ ⟨φ,?_⟩
 rw[hd]
 refine(hr.called y).put (XP hn) ?_
 rcases hres with⟨rfl,hdat⟩|hsca
 ·exact y.rep.datA hdat λk hk=>⟨RC.imm hr hk,rfl⟩
 exact y.rep.scaA hsca
def RR.born (hr:RR C φ σ a w){d:Nat}{B:Xa}{ob:Ob}{w':World}(hd:d<617)(hf:look σ.hp d=none)(ho:w'.os=w.os)(ht:w'.tape=w.tape)(hu:w'.output=w.output)(hs:w.heap.size<=w'.heap.size)(hk:∀k,k<w.heap.size->w'.heap[k]? = w.heap[k]?)
  (hB:∀k,B.has k->w.heap.size<=k/\k<w'.heap.size) (hrep:JL (ext φ d B) (Xj C (ext φ d B) w') w' B ob):RR C (ext φ d B) (σ.set d ob) a w':=by
 have D:RR C φ σ a w':=hr.step ho ht hu hs hk
 have hN:=hr.none_of_look hf
 have hmono:=D.mono_ext B hN
 have hI0:∀k,Xj C φ w k->Xj C (ext φ d B) w' k/\w'.heap[k]? = w.heap[k]? := λk hk'=>
  ⟨⟨Aj hk'.1 hs,hk'.2.1,λo' B' h hh=>by
   by_cases e:o'=d
   ·subst e;rw[XD]at h;cases h;have:=hk'.1;have:=(hB k hh).1;omega
   rw[Xq _ e]at h;exact hk'.2.2 o' B' h hh⟩,hk k hk'.1⟩
 refine⟨D.os,D.tape,D.output,D.size,D.kept,?_,?_,?_,?_,⟨?_,λo' ob' B1 hge ho' hB1=>by rw[Xq _ (by omega)];exact D.stay.2 o' ob' B1 hge (by rwa[σ.look_set_other _ (by omega)]at ho') hB1⟩,D.tmps,hr.defers.mono hI0,?_,?_⟩
 ·intro o1 o2 B1 B2 k e1 e2 hb hb'
  by_cases g1:o1=d<;>by_cases g2:o2=d
  ·rw[g1,g2]
  ·subst g1;rw[XD]at e1;cases e1;rw[Xq _ g2]at e2
   have:=(hr.lt o2 B2 k e2 hb').1;have:=(hB k hb).1;omega
  ·subst g2;rw[XD]at e2;cases e2;rw[Xq _ g1]at e1
   have:=(hr.lt o1 B1 k e1 hb).1;have:=(hB k hb').1;omega
  rw[Xq _ g1]at e1;rw[Xq _ g2]at e2;exact hr.inj o1 o2 B1 B2 k e1 e2 hb hb'
 ·intro o' B' h
  by_cases e:o'=d
  ·subst e;exact⟨_,σ.look_set_same _ _⟩
  rw[Xq _ e]at h;obtain⟨ob',h'⟩:=hr.dom o' B' h;exact⟨ob',by rw[σ.look_set_other _ (Ne.symm e)];exact h'⟩
 ·intro o' B' k h hk
  by_cases e:o'=d
  ·subst e;rw[XD]at h;cases h;exact⟨(hB k hk).2,λhlt=>absurd hr.size (by have:=(hB k hk).1;omega)⟩
  rw[Xq _ e]at h;exact D.lt o' B' k h hk
 ·intro o' B' k h hk hlt
  by_cases e:o'=d
  ·subst e;rw[XD]at h;cases h;exact Kj hr.size (hB k hk).1
  rw[Xq _ e]at h;exact D.new o' B' k h hk hlt
 ·intro o' B' hge h
  rw[Xq _ (by omega)]at h;exact D.stay.1 o' B' hge h
 ·intro t u hu
  obtain⟨y,hy,hrep⟩:=hr.frame t u hu
  exact⟨y,hy,hrep.mono hmono hI0⟩
 intro o' ob' ho'
 by_cases e:o'=d
 ·subst e;rw[σ.look_set_same]at ho';cases ho'
  exact .inl ⟨B,XD _ _ _,hrep⟩
 rw[σ.look_set_other _ (Ne.symm e)]at ho'
 rcases hr.heap o' ob' ho' with⟨B',h,hrep'⟩|⟨e1,e2⟩
 ·exact .inl ⟨B',by rw[Xq _ e];exact h,hrep'.mono hmono hI0 λk hk'=>hk _ (hr.lt o' B' k h hk').1⟩
 exact .inr ⟨by rw[Xq _ e];exact e1,e2⟩
def Qel (z:Nat)(rows:L_ (L_ V))(v:V)(h:H_):Prop:=∃o,v=.own o rows.length/\look h o=some (.arr z rows)
def Qf.callOEB {β:Nat}(hβ:β<=C.w0.heap.size){f:FuncId}{d m z:Nat}{g:Bool}{vs us:L_ V}{rows:L_ (L_ V)}(hE:YU P C o σ f vs)(hd:o.dst=some d)
  (hn:B_ d C) (hpg:C.pg P) (hv:Lp σ.hp g vs us) (hc:JG β P f us [] (Qel z rows)) (hres:g=false\/∀r∈rows,∀v∈r,v.sca=true)
  (hf:look σ.hp d=none) (hm:rows.length=m):Qf P C o σ ((σ.set d (.arr z rows)).put d (.own d m)):=by
 intro a w ⟨φ,hr⟩ next Q hnext
 subst hm
 refine⟨λ_ _=>trivial,?_⟩
 obtain⟨vals,hex,g1,g2⟩:=hE φ a w hr
 rw[VN hex,Oper.uponIn_enter]
 refine⟨(λh=>by cases h),VO ((hc _ _ w _ (Kj hβ hr.size) (Ins.of_viewsE hr g1 g2 hv) ((hr.glob hpg).mono λ_ h=>.inl h)).mono ?_)⟩
 rintro e w' ⟨x,v,hs',φ',rfl,⟨oo,rfl,hlook⟩,D⟩
 have hr':=hr.called D
 have hN:=hr.none_of_look hf
 rw[hd]
 rcases D.heap oo _ hlook with⟨B,hB,hrep⟩|⟨hnone,hz'⟩
 ·have hBn:∀k,B.has k->w.heap.size<=k:=λk hk=>by
   rcases DH k w.heap.size with h | h
   ·obtain⟨_,_,h2,_⟩:=(D.lt oo B k hB hk).2 h;simp at h2
   exact h
  have hBlt:∀k,B.has k->k<w'.heap.size:=λk hk=>(D.lt oo B k hB hk).1
  have hI:∀k,Xj C φ w' k->¬B.has k->Xj C (ext φ d B) w' k/\w'.heap[k]? = w'.heap[k]? := λk hk hne=>⟨⟨hk.1,hk.2.1,λo' B' hB'=>by
   by_cases e:o'=d
   ·subst e;rw[XD]at hB';cases hB';exact hne
   rw[Xq _ e]at hB';exact hk.2.2 o' B' hB'⟩,rfl⟩
  have hA:∀k,RC (Qhh C φ w g) φ' w w' k->¬B.has k:=λk hk=>hk.2.2 oo B hB
  obtain⟨hz,hrl,hok,cs,E,h1,h2,h3⟩:=hrep
  have hset:RR C (ext φ d B) (σ.set d (.arr z rows)) a w':=by
   refine hr.born (C.slot hn) hf D.os D.tape D.output D.size (λk hk=>D.kept k hk λ_ _ h=>by simp at h) (λk hk=>⟨hBn k hk,hBlt k hk⟩) ⟨hz,hrl,hok,cs,E,h1,h2,λi r hi j v hj=>?_⟩
   obtain⟨y,hy,hD⟩:=h3 i r hi j v hj
   refine⟨y,hy,?_⟩
   rcases hres with rfl | hsc
   ·exact hD.mono λk hk=>hI k (RC.imm hr hk) (hA k hk)
   exact hD.sca (hsc r (XU hi) v (XU hj))
  refine hnext _ _ ⟨ext φ d B,hset.put (XP hn) ?_⟩
  rcases D.rep.own_inv with⟨rfl,h0⟩|⟨B',hB',hcap,rfl⟩
  ·rw[h0];exact .own0 d
  rw[hB]at hB';cases hB';exact .own d _ B (XD _ _ _) hcap
 replace hz':rows=[]:=hz';subst hz'
 refine hnext _ _ ⟨φ,(hr'.setNil (C.slot hn) hf).put (XP hn) ?_⟩
 rcases D.rep.own_inv with⟨rfl,h0⟩|⟨B',hB',_,_⟩
 ·exact .own0 d
 rw[hnone]at hB';cases hB'
def Qf.callE {f:FuncId}{d:Nat}{g:Bool}{vs us:L_ V}{r:V}(D:YU P C o σ f vs)(hd:o.dst=some d)
  (hn:B_ d C) (y:C.pg P) (hv:Lp σ.hp g vs us) (hc:QX P f us [] λv _=>v=r) (h:(g=false/\r.datA=true)\/r.scaA=true):
  Qf P C o σ (σ.put d r):=
 Qf.callEB (β:=0) (Nat.zero_le _) D hd hn y hv hc.b h
def Qf.callOE {f:FuncId}{d m z:Nat}{g:Bool}{vs us:L_ V}{rows:L_ (L_ V)}(D:YU P C o σ f vs)(hd:o.dst=some d)
  (hn:B_ d C) (y:C.pg P) (hv:Lp σ.hp g vs us) (hc:QX P f us [] (Qel z rows)) (h:g=false\/∀r∈rows,∀v∈r,v.sca=true)
  (hf:look σ.hp d=none) (hm:rows.length=m):Qf P C o σ ((σ.set d (.arr z rows)).put d (.own d m)):=
 Qf.callOEB (β:=0) (Nat.zero_le _) D hd hn y hv hc.b h hf hm
end
def Qq (n:Int):Int:=IntKind.i64.wrap n
def idx {α:Type}(l:L_ α)(j:Int):O_ α:=if 0<=j then l[j.toNat]? else none
def chk (c:Bool):O_ Unit:=bif c then some ()else none
def Xn {α:Type}{c:Bool}{x y:O_ α}{r:α}(h:(bif c then x else y)=some r):(c=true/\x=some r)\/(c=false/\y=some r):=by
 cases c
 ·exact .inr ⟨rfl,h⟩
 exact .inl ⟨rfl,h⟩
def Qp {α β:Type}{o:O_ α}{f:α->O_ β}{r:β}(h:o.bind f=some r):∃x,o=some x/\f x=some r:=My.1 h
def Qfz {c:Bool}{u:Unit}(h:chk c=some u):c=true:=by
 cases c
 ·cases h
 rfl
def YV {α:Type}{l:L_ α}{j:Int}{x:α}(h:idx l j=some x):0<=j/\l[j.toNat]? = some x:=by
 unfold idx at h
 split at h
 ·exact⟨by assumption,h⟩
 cases h
def QmU {α:Type}{l:L_ α}{j:Int}{x:α}(h:idx l j=some x):j<l.length:=by
 obtain⟨D,y⟩:=YV h
 have:=(Xe.1 y).1
 omega
def Xz {α β:Type}{l:L_ α}{f:α->β}{i:Nat}{x:α}(h:l[i]? = some x):(l.map f)[i]? = some (f x):=by rw[Yb,h];rfl
def Ug {α β:Type}{l:L_ α}{f:α->β}{i:Nat}{x:α}{r:β}(h:r=f x):(l.map f).set i r=(l.set i x).map f:=by rw[h,List.map_set]
def JS {α β:Type}{l m:L_ α}{f:α->β}:l.map f++m.map f=(l++m).map f:=by simp
def QjH {α β:Type}{f:α->β}{n:Nat}{x:α}{r:β}(h:r=f x):List.replicate n r=(List.replicate n x).map f:=by rw[h];simp
def Qd {α β:Type}{l:L_ α}{f:α->β}:(l.map f).length=l.length:=BW f
def Qnr (c:Bool):c=true\/c=false:=by cases c<;>simp
def Jv {c x y:Bool}(h:c=true)(e:x=y):x=(c&&y):=by rw[h,e];rfl
def WC {c x y:Bool}(h:c=false)(e:x=false):x=(c&&y):=by rw[h,e];rfl
def Gc {c x y:Bool}(h:c=true)(e:x=true):x=(c||y):=by rw[h,e];rfl
def JM {c x y:Bool}(h:c=false)(e:x=y):x=(c||y):=by rw[h,e];rfl
def QiR {c x y z:Bool}(h:c=true)(e:x=y):x=(bif c then y else z):=by rw[h,e];rfl
def QkF {c x y z:Bool}(h:c=false)(e:x=z):x=(bif c then y else z):=by rw[h,e];rfl
section
variable {P:Program}{C:XA}{ops:Array Oper}{σ:St}{Q:Exit->St->Prop}{c:Code}
def Ys.to (fr:S_)(hp:H_)(D:HI σ.fr fr)(hh:UD σ.hp hp)(hk:St.closed ⟨fr,hp⟩=true)(h:Ys P C c ⟨fr,hp⟩ Q):Ys P C c σ Q:=
 Ys.weaken (λ_ _ y=>y.to D hh hk) h
def AL.to {rest:L_ Oper}(fr:S_)(hp:H_)(D:HI σ.fr fr)(hh:UD σ.hp hp)(hk:St.closed ⟨fr,hp⟩=true)(h:AL P C ops rest ⟨fr,hp⟩ Q):AL P C ops rest σ Q:=
 AL.weaken (λ_ _ y=>y.to D hh hk) h
def AL.adopt {rest:L_ Oper}{t b z:Nat}(y:b<617)(ht:look σ.fr t=some (.lit (.slice none 0 0)))(hb:look σ.hp b=none)(h:AL P C ops rest ((σ.set b (.arr z [])).put t (.own b 0)) Q):AL P C ops rest σ Q:=
 AL.weaken (λ_ _ D=>D.adopt y ht hb) h
def Ys.adopt {t b z:Nat}(y:b<617)(ht:look σ.fr t=some (.lit (.slice none 0 0)))(hb:look σ.hp b=none)(h:Ys P C c ((σ.set b (.arr z [])).put t (.own b 0)) Q):Ys P C c σ Q:=
 Ys.weaken (λ_ _ D=>D.adopt y ht hb) h
end
section
variable {P:Program}{C:XA}{σ:St}{o:Oper}
def Qf.extract {d i:Nat}{x:Operand}{vs:L_ V}{v:V}(ho:o.op=.extract x i)(hd:o.dst=some d)(hn:B_ d C)(hx:σ.opd x=some (.tup vs))(y:vs[i]? = some v):Qf P C o σ (σ.put d v):=by
 refine Qf.same hd hn λφ a w hr=>?_
 obtain⟨xs,he,hs,D⟩:=(hr.opd hx).tup_inv
 have h:i<xs.size:=by rw[hs];exact(Xe.1 y).1
 exact⟨xs[i],by simp[execOp,ho,he,Instr.extract,h],D i _ v (GZ h) y⟩
def Qf.appS {T U d e e' z z' by_ by' b n m:Nat}{x y:Operand}{rs us rs':L_ (L_ V)}{zs:L_ V}(ho:o.op=.call { callee:=.builtin .append,args:=#[x,y],argTypes:=#[T,U] })
  (hd:o.dst=some d) (hn:B_ d C) (hx:σ.opd x=some (.own b n)) (hb:look σ.hp b=some (.arr z rs)) (h:Nat.ble 617 b=false) (hnl:rs.length=n)
  (hT:Yo P T=some (e,z,by_)) (hU:Yo P U=some (e',z',by')) (hz:XX P e=some zs) (hzl:zs.length=z) (hz0:z≠0) (D:Nat.ble by_ 32768=true) (hsm:decide (n+us.length<=4294967296)=true)
  (hy:σ.opd y=some (.sl z us)) (he:rs++us=rs') (hm:n+us.length=m):Qf P C o σ (σ.app b z d m rs'):=
 Qf.append ho hd hn hx hb h hnl hT hU hz hzl hz0 (JK D) (XC hsm) (λφ a w hr=>(hr.opd hy).source_sl) he hm
def Qf.appO {T U d e e' z z' by_ by' b b' n h m:Nat}{x y:Operand}{rs us rs':L_ (L_ V)}{zs:L_ V}(ho:o.op=.call { callee:=.builtin .append,args:=#[x,y],argTypes:=#[T,U] })
  (hd:o.dst=some d) (hn:B_ d C) (hx:σ.opd x=some (.own b n)) (hb:look σ.hp b=some (.arr z rs)) (hb1:Nat.ble 617 b=false) (hnl:rs.length=n)
  (hT:Yo P T=some (e,z,by_)) (hU:Yo P U=some (e',z',by')) (hz:XX P e=some zs) (hzl:zs.length=z) (hz0:z≠0) (hby:Nat.ble by_ 32768=true) (hsm:decide (n+h<=4294967296)=true)
  (hy:σ.opd y=some (.own b' h)) (D:look σ.hp b'=some (.arr z us)) (hle:us.length=h) (he:rs++us=rs') (hm:n+h=m):Qf P C o σ (σ.app b z d m rs'):=by
 subst hle
 refine Qf.append ho hd hn hx hb hb1 hnl hT hU hz hzl hz0 (JK hby) (XC hsm) (λφ a w hr=>?_) he hm
 have:=(hr.opd hy).source_own hr D (YZ _)
 rwa[Ln]at this
def Qf.appN {T U d e e' z z' by_ by' b n:Nat}{x y:Operand}{rs:L_ (L_ V)}{zs:L_ V}(ho:o.op=.call { callee:=.builtin .append,args:=#[x,y],argTypes:=#[T,U] })
  (hd:o.dst=some d) (hn:B_ d C) (hx:σ.opd x=some (.own b n)) (hb:look σ.hp b=some (.arr z rs)) (h:Nat.ble 617 b=false) (hnl:rs.length=n)
  (hT:Yo P T=some (e,z,by_)) (hU:Yo P U=some (e',z',by')) (hz:XX P e=some zs) (hzl:zs.length=z) (hz0:z≠0) (D:Nat.ble by_ 32768=true) (hsm:decide (n<=4294967296)=true)
  (hy:σ.opd y=some (.lit (.slice none 0 0))):Qf P C o σ (σ.app b z d n rs):=by
 refine Qf.append (us:=[]) ho hd hn hx hb h hnl hT hU hz hzl hz0 (JK D) (by simpa using XC hsm) (λφ a w hr=>?_) (by simp) (by simp)
 exact .inl ⟨none,0,(hr.opd hy).lit_inv,rfl⟩
end
def BY (a b:ByteArray):Bool:=a.toList==b.toList
def sidx (s:ByteArray)(j:Int):O_ Int:=if 0<=j then(s[j.toNat]?).map λc=>(c.toNat:Int)else none
def max2 (x y:Int):Int:=if y > x then y else x
def min2 (x y:Int):Int:=if y<x then y else x
def neZ {n:Int}(h:(n != 0)=true):n≠0:=by simpa using h
def Qem (P:Program)(t:TypeId):Bool:=match P.underlying t with | some .bool=>true | _=>false
def QjI {P:Program}{T:Nat}(h:Qem P T=true):P.underlying T=some .bool:=by
 unfold Qem at h
 split at h
 ·assumption
 cases h
def QiS {P:Program}{T:Nat}{m n:Bool}{w:World}(h:P.underlying T=some .bool):(Op.equal T (.bool m) (.bool n)).run P w=.ok (m==n) w:=by
 have e:Op.equal T (.bool m) (.bool n)=Op.equalIn (9999+1) T (.bool m) (.bool n):=rfl
 rw[e,Op.equalIn]
 simp only[Xf,run_underlying h,Xl,Xx]
section
variable {P:Program}{C:XA}{σ:St}{o:Oper}
def Qf.eqB {op:BinOp}{x y:Operand}{T U d:Nat}{m n:Bool}{v:V}(ho:o.op=.binOp op T x y U)(hd:o.dst=some d)(hn:B_ d C)(hx:σ.opd x=some (.b m))(hy:σ.opd y=some (.b n))
  (hT:Qem P T=true) (hv:(op=.eql/\v=.b (m==n))\/(op=.neq/\v=.b (m != n))):Qf P C o σ (σ.put d v):=by
 refine Qf.same hd hn λφ a w h=>?_
 have D:=(h.opd hx).b_inv
 have h2:=(h.opd hy).b_inv
 have hu:=QjI hT
 rcases hv with⟨rfl,rfl⟩|⟨rfl,rfl⟩ <;>
  exact⟨.bool _,by simp only[execOp,ho,D,h2,Xf,eqGuard_at_bool,Xx,Xl,binOp,QiS hu];try rfl,.dat (.b _)⟩
def Qf.eqS {op:BinOp}{x y:Operand}{T U d:Nat}{m n:ByteArray}{v:V}(ho:o.op=.binOp op T x y U)(hd:o.dst=some d)(hn:B_ d C)(hx:σ.opd x=some (.s m))(hy:σ.opd y=some (.s n))
  (hv:(op=.eql/\v=.b (BY m n))\/(op=.neq/\v=.b (!BY m n))):Qf P C o σ (σ.put d v):=by
 refine Qf.same hd hn λφ a w hr=>?_
 have h:=(hr.opd hx).s_inv
 have D:=(hr.opd hy).s_inv
 rcases hv with⟨rfl,rfl⟩|⟨rfl,rfl⟩
 ·exact⟨.bool (BY m n),by simp[execOp,ho,h,D,eqGuard,binOp,Op.stringOp,BY],.dat (.b _)⟩
 exact⟨.bool (!BY m n),by simp[execOp,ho,h,D,eqGuard,binOp,Op.stringOp,BY],.dat (.b _)⟩
def Qf.idxStr' {T d:Nat}{x y:Operand}{k:IntKind}{j r:Int}{s:ByteArray}(ho:o.op=.index T x y)(hd:o.dst=some d)(hn:B_ d C)
  (hx:σ.opd x=some (.s s)) (hy:σ.opd y=some (.i k j)) (D:Qbf P T=true) (h:sidx s j=some r):Qf P C o σ (σ.put d (.i .u8 r)):=by
 unfold sidx at h
 split at h
 ·obtain⟨c,hc,rfl⟩:=XZ.1 h
  exact Qf.idxStr ho hd hn hx hy D (by assumption) hc
 cases h
def Qf.lenS' {T d e z z' by_ n:Nat}{x:Operand}{rows:L_ (L_ V)}(ho:o.op=.call { callee:=.builtin .len,args:=#[x],argTypes:=#[T] })(y:o.dst=some d)(hn:B_ d C)
  (hx:σ.opd x=some (.sl z rows)) (h:Yo P T=some (e,z',by_)) (D:rows.length=n):Qf P C o σ (σ.put d (.i .i64 n)):=by
 subst D;exact Qf.lenS ho y hn hx h
def Qf.make' {T d e z by_:Nat}{x y:Operand}{zs:L_ V}{rs:L_ (L_ V)}{k k':IntKind}{l c:Int}(ho:o.op=.makeSlice T x y)(hd:o.dst=some d)(hn:B_ d C)
  (hx:σ.opd x=some (.i k l)) (hy:σ.opd y=some (.i k' c)) (hT:Yo P T=some (e,z,by_)) (hz:XX P e=some zs) (hzl:zs.length=z) (hz0:z≠0) (h:zs.all V.one=true)
  (D:(decide (0<=l)&&decide (l<=c)&&decide (c<=4294967296))=true) (hby:Nat.ble by_ 32768=true) (hf:look σ.hp d=none) (hrs:List.replicate l.toNat zs=rs):
  Qf P C o σ ((σ.set d (.arr z rs)).put d (.own d l.toNat)):=by
 subst hrs
 simp only[QL,QM]at D
 exact Qf.make ho hd hn hx hy hT hz hzl hz0 h D.1.1 D.1.2 (JK hby) D.2 hf
def Qf.max2 {d:Nat}{x y:Operand}{k:IntKind}{m n:Int}{ts:Array TypeId}(ho:o.op=.call { callee:=.builtin .max,args:=#[x,y],argTypes:=ts })(D:o.dst=some d)(hn:B_ d C)
  (hx:σ.opd x=some (.i k m)) (hy:σ.opd y=some (.i k n)):Qf P C o σ (σ.put d (.i k (Vm.max2 m n))):=by
 refine Qf.same D hn λφ a w h=>⟨.int k (Vm.max2 m n),?_,.dat (.i _ _)⟩
 simp[execOp,ho,(h.opd hx).i_inv,(h.opd hy).i_inv,resolve,invoke,builtin,Builtin.max_,Builtin.max2,Vm.max2]
def Qf.min2 {d:Nat}{x y:Operand}{k:IntKind}{m n:Int}{ts:Array TypeId}(ho:o.op=.call { callee:=.builtin .min,args:=#[x,y],argTypes:=ts })(D:o.dst=some d)(hn:B_ d C)
  (hx:σ.opd x=some (.i k m)) (hy:σ.opd y=some (.i k n)):Qf P C o σ (σ.put d (.i k (Vm.min2 m n))):=by
 refine Qf.same D hn λφ a w h=>⟨.int k (Vm.min2 m n),?_,.dat (.i _ _)⟩
 simp[execOp,ho,(h.opd hx).i_inv,(h.opd hy).i_inv,resolve,invoke,builtin,Builtin.min_,Builtin.min2,Vm.min2]
end
def V.renC (o o':Nat):V->V
 | .own p n=>.own (bif Nat.beq p o then o' else p) n
 | .loc p k l=>.loc (bif Nat.beq p o then o' else p) k l
 | .map p=>.map (bif Nat.beq p o then o' else p)
 | .ifc t x=>.ifc t (x.renC o o')
 | .agg h=>bif h.all V.plain then .agg h else .J
 | .tup _=>.J
 | .clo _ _ _=>.J
 | v=>v
def V.ren (o o':Nat):V->V
 | .agg h=>.agg (h.map (V.renC o o'))
 | .clo fn fs h=>.clo fn (fs.map (V.renC o o')) (h.map (V.renC o o'))
 | v=>v.renC o o'
def Ob.ren (o o':Nat):Ob->Ob
 | .var h=>.var (h.map (V.ren o o'))
 | .lp l K h q=>.lp l K (h.map (V.ren o o')) q
 | ob=>ob
def Qcn (o o':Nat):S_->S_
 | []=>[]
 | (t,v)::r=>(t,v.ren o o')::Qcn o o' r
def Qco (o o':Nat):H_->H_
 | []=>[]
 | (p,ob)::r=>(bif Nat.beq p o then o' else p,ob.ren o o')::Qco o o' r
def St.ren (σ:St)(o o':Nat):St:=⟨Qcn o o' σ.fr,Qco o o' σ.hp⟩
section
variable {φ φ':Nat->O_ Xa}{I:Nat->Prop}{w:World}{o o':Nat}
def Gv (p o o':Nat):(p=o/\(bif Nat.beq p o then o' else p)=o')\/(p≠o/\(bif Nat.beq p o then o' else p)=p):=by
 cases h:Nat.beq p o with
 | true=>exact .inl ⟨YE h,rfl⟩
 | false=>exact .inr ⟨λe=>by subst e;simp at h,rfl⟩
def QO.renC (h1:∀B,φ o=some B->φ' o'=some B)(h2:∀p B,p≠o->φ p=some B->φ' p=some B){x:Value}{v:V}(h:QO φ I w x v):QO φ' I w x (v.renC o o'):=by
 have key:∀p B,φ p=some B->φ' (bif Nat.beq p o then o' else p)=some B:=by
  intro p B y
  rcases Gv p o o' with⟨e,e2⟩|⟨e,e2⟩
  ·rw[e2];exact h1 B (e▸y)
  rw[e2];exact h2 p B e y
 induction h with
 | dat h=>
  have:∀{x:Value} {v:V},Xy I w x v->QO φ' I w x (v.renC o o'):=by
   intro x v h
   induction h with
   | ifc t x v _ ih=>exact .ifc t x _ ih
   | agg xs cs hs hr=>
    unfold V.renC
    cases h:cs.all V.plain with
    | true=>exact .dat (.agg xs cs hs hr)
    | false=>exact .dat (.J _)
   | tup=>exact .dat (.J _)
   | b=>exact .dat (.b _)
   | i=>exact .dat (.i _ _)
   | s=>exact .dat (.s _)
   | lit=>exact .dat (.lit _)
   | J=>exact .dat (.J _)
   | sl0=>exact .dat (.sl0 _ _ _)
   | sl b off D cap z rows c a1 a2 a3 a4 a5 a6 _=>exact .dat (.sl b off D cap z rows c a1 a2 a3 a4 a5 a6)
   | e0=>exact .dat (.e0 _)
   | sln0=>exact .dat (.sln0 _ _ _ _)
   | sln β b off D cap z rows c E a0 a1 a2 a3 a4 a5 a6 a7 _=>exact .dat (.sln β b off D cap z rows c E a0 a1 a2 a3 a4 a5 a6 a7)
   | ro b off cs c a1 a2 a3 a4 _=>exact .dat (.ro b off cs c a1 a2 a3 a4)
  exact this h
 | own0 p=>exact .own0 _
 | own p n B y hn=>exact .own _ n B (key p B y) hn
 | loc p i d B y=>exact .loc _ i d B (key p B y)
 | map p B y=>exact .map _ B (key p B y)
 | ifc t x v _ ih=>exact .ifc t x _ ih
 | agg xs cs hs hr _=>
  unfold V.renC
  cases h:cs.all V.plain with
  | true=>exact .dat (QO.aggPlain hs hr h)
  | false=>exact .dat (.J _)
 | tup=>exact .dat (.J _)
 | clo=>exact .dat (.J _)
def QO.ren (h1:∀B,φ o=some B->φ' o'=some B)(h2:∀p B,p≠o->φ p=some B->φ' p=some B){x:Value}{v:V}(h:QO φ I w x v):QO φ' I w x (v.ren o o'):=by
 cases v with
 | agg cs=>
  obtain⟨xs,rfl,hs,hr⟩:=h.agg_inv
  refine .agg xs _ (by simpa using hs) λj x v hx y=>?_
  rw[Yb]at y
  obtain⟨u,D,rfl⟩:=XZ.1 y
  exact(hr j x u hx D).renC h1 h2
 | clo fn vs us=>
  obtain⟨xs,ys,rfl,e1,e2,e3,e4⟩:=h.clo_inv
  refine .clo fn xs ys _ _ (by simpa using e1) (by simpa using e2) (λj x v hx y=>?_) (λj x v hx y=>?_)
  ·rw[Yb]at y
   obtain⟨u,D,rfl⟩:=XZ.1 y
   exact(e3 j x u hx D).renC h1 h2
  rw[Yb]at y
  obtain⟨u,D,rfl⟩:=XZ.1 y
  exact(e4 j x u hx D).renC h1 h2
 | _=>exact h.renC h1 h2
def JL.ren (h1:∀B,φ o=some B->φ' o'=some B)(h2:∀p B,p≠o->φ p=some B->φ' p=some B){B:Xa}{ob:Ob}(h:JL φ I w B ob):JL φ' I w B (ob.ren o o'):=by
 cases ob with
 | var vs=>
  obtain⟨cs,E,e1,e2,e0,e3⟩:=h
  refine⟨cs,E,e1,by simpa using e2,e0,λj x v hx y=>?_⟩
  rw[Yb]at y
  obtain⟨u,hu,rfl⟩:=XZ.1 y
  exact(e3 j x u hx hu).ren h1 h2
 | lp l K vs q=>
  obtain⟨tmps,D,e0,e1,e2,e3,e4⟩:=h
  refine⟨tmps,D,e0,e1,e2,by simpa using e3,λj x v hx y=>?_⟩
  rw[Yb]at y
  obtain⟨u,hu,rfl⟩:=XZ.1 y
  exact(e4 j x u hx hu).ren h1 h2
 | arr z rs=>exact h
 | map l=>exact h
 | grp z l lk=>exact h
 | mapX bm clock L l=>exact h
 | itr bm since seen cur=>exact h
 | itr0=>exact h
 | tbl A z rs=>exact h
 | nst x v=>exact h
 | scr D H=>exact h
def Ob.Nil.ren {ob:Ob}(h:ob.Nil):(ob.ren o o').Nil:=by cases ob<;>first | exact h | exact h.elim
end
def Qen {o o':Nat}:∀(l:S_) (t:Nat) (v:V),look (Qcn o o' l) t=some v->∃y,look l t=some y/\v=y.ren o o':=by
 intro l
 induction l with
 | nil=>intro t v h;cases h
 | cons p l D=>
  intro t v h
  obtain⟨k,u⟩:=p
  by_cases e:k=t
  ·subst e;rw[Qcn,QC]at h;cases h;exact⟨u,QC _ _ _,rfl⟩
  rw[Qcn,QA _ _ e]at h
  rw[QA _ _ e];exact D t v h
def Ph {o o':Nat}:∀(l:H_) (p:Nat) (ob:Ob),look l o'=none->look l p=some ob->look (Qco o o' l) (bif Nat.beq p o then o' else p)=some (ob.ren o o'):=by
 intro l
 induction l with
 | nil=>intro p ob _ h;cases h
 | cons q l ih=>
  intro p ob y h
  obtain⟨k,u⟩:=q
  have hk:k≠o':=λe=>by subst e;rw[QC]at y;cases y
  rw[QA _ _ hk]at y
  rw[Qco]
  by_cases e:k=p
  ·subst e;rw[QC]at h;cases h;exact QC _ _ _
  rw[QA _ _ e]at h
  have ne:(bif Nat.beq k o then o' else k)≠(bif Nat.beq p o then o' else p):=by
   have hp:p≠o':=λe'=>by rw[e',y]at h;cases h
   rcases Gv k o o' with⟨a1,D⟩|⟨a1,D⟩<;>rcases Gv p o o' with⟨b1,b2⟩|⟨b1,b2⟩<;>rw[D,b2]<;>omega
  rw[QA _ _ ne];exact ih p ob y h
def PX {o o':Nat}:∀(l:H_) (q:Nat) (ob:Ob),look l o'=none->look (Qco o o' l) q=some ob->∃p ob',q=(bif Nat.beq p o then o' else p)/\look l p=some ob'/\ob=ob'.ren o o':=by
 intro l
 induction l with
 | nil=>intro p ob _ h;cases h
 | cons x l ih=>
  intro q ob y h
  obtain⟨k,u⟩:=x
  have hk:k≠o':=λe=>by subst e;rw[QC]at y;cases y
  rw[QA _ _ hk]at y
  rw[Qco]at h
  by_cases e:(bif Nat.beq k o then o' else k)=q
  ·subst e;rw[QC]at h;cases h
   exact⟨k,u,rfl,QC _ _ _,rfl⟩
  rw[QA _ _ e]at h
  obtain⟨p,ob',D,h2,h3⟩:=ih q ob y h
  refine⟨p,ob',D,?_,h3⟩
  rw[QA _ _ (λe2=>e (by rw[e2,D]))];exact h2
section
variable {C:XA}{σ:St}{a:Act}{w:World}
def R.ren (h:R C σ a w)(o o':Nat)(ho:Nat.ble 615 o=false)(ho':Nat.ble 615 o'=false)(hn:look σ.hp o'=none):R C (σ.ren o o') a w:=by
 obtain⟨φ,y⟩:=h
 have hφn:=y.none_of_look hn
 by_cases eo:o=o'
 ·
  subst eo
  have hfr:∀t v,look (Qcn o o σ.fr) t=some v->∃v',look σ.fr t=some v'/\v=v'.ren o o:=Qen σ.fr
  refine⟨φ,y.os,y.tape,y.output,y.size,y.kept,y.inj,λp B hB=>?_,y.lt,y.new,y.stay.sub (λq ob hq=>let ⟨p,ob',e1,e2,_⟩:=PX σ.hp q ob hn hq;⟨ob',by rcases Gv p o o with⟨a1,D⟩|⟨a1,D⟩<;>rw[e1,D];exact a1▸e2;exact e2⟩),y.tmps,y.defers,λt v hv=>?_,λq ob hq=>?_⟩
  ·obtain⟨ob,hob⟩:=y.dom p B hB
   have:=Ph (o:=o) (o':=o) σ.hp p ob hn hob
   rcases Gv p o o with⟨e1,e2⟩|⟨e1,e2⟩
   ·rw[e1,hφn]at hB;cases hB
   rw[e2]at this;exact⟨_,this⟩
  ·obtain⟨v',hv',rfl⟩:=hfr t v hv
   obtain⟨x,hx,hrep⟩:=y.frame t v' hv'
   exact⟨x,hx,hrep.ren (λB h=>h) (λp B _ h=>h)⟩
  obtain⟨p,ob',e1,e2,rfl⟩:=PX σ.hp q ob hn hq
  have:q=p:=by rcases Gv p o o with⟨a1,D⟩|⟨a1,D⟩<;>rw[e1,D];exact a1.symm
  subst this
  rcases y.heap q ob' e2 with⟨B,hB,hrep⟩|⟨h1,hz⟩
  ·exact .inl ⟨B,hB,hrep.ren (λB h=>h) (λp B _ h=>h)⟩
  exact .inr ⟨h1,hz.ren⟩
 let φ':Nat->O_ Xa:=λk=>if k=o' then φ o else if k=o then none else φ k
 have h1:∀B,φ o=some B->φ' o'=some B:=λB hB=>by simp only[φ',if_true];exact hB
 have h2:∀p B,p≠o->φ p=some B->φ' p=some B:=λp B hp hB=>by
  have:p≠o':=λe=>by rw[e,hφn]at hB;cases hB
  simp only[φ',if_neg this,if_neg hp];exact hB
 have inv:∀q B,φ' q=some B->(q=o'/\φ o=some B)\/(q≠o'/\q≠o/\φ q=some B):=by
  intro q B hB
  simp only[φ']at hB
  split at hB
  ·exact .inl ⟨by assumption,hB⟩
  split at hB
  ·cases hB
  exact .inr ⟨by assumption,by assumption,hB⟩
 have hI:∀k,Xj C φ w k->Xj C φ' w k:=λk hk=>⟨hk.1,hk.2.1,λq B hB=>by
  rcases inv q B hB with⟨_,h⟩|⟨_,_,h⟩
  ·exact hk.2.2 o B h
  exact hk.2.2 q B h⟩
 have hlt:o<615:=by
  rcases DH o 615 with h | h
  ·exact h
  rw[PV h]at ho;cases ho
 have up:∀{x:Value} {v:V},QO φ (Xj C φ w) w x v->QO φ (Xj C φ' w) w x v:=λh=>h.mono (λ_ _ h=>h) (λk hk=>⟨hI k hk,rfl⟩)
 refine⟨φ',y.os,y.tape,y.output,y.size,y.kept,λp q B B' k e1 e2 hb hb'=>?_,λq B hB=>?_,λq B k hB hk=>?_,λq B k hB hk hq=>?_,⟨λq B hq hB=>?_,λq ob B hge hq hB=>by
  obtain⟨p,ob',e1,e2,_⟩:=PX σ.hp q ob hn hq
  have hlt':o'<615:=by
   rcases DH o' 615 with h | h
   ·exact h
   rw[PV h]at ho';cases ho'
  have:q=p:=by
   rcases Gv p o o' with⟨a1,D⟩|⟨a1,D⟩
   ·rw[D]at e1;omega
   rw[D]at e1;exact e1
  subst this
  have h1:=y.stay.2 q ob' B hge e2 hB
  show φ' q=some B
  simp only[φ']
  rw[if_neg (by omega),if_neg (by omega)];exact h1⟩,y.tmps,y.defers.mono λk hk=>⟨hI k hk,rfl⟩,λt v hv=>?_,λq ob hq=>?_⟩
 ·rcases inv p B e1 with⟨a1,D⟩|⟨a1,D,a3⟩<;>rcases inv q B' e2 with⟨b1,b2⟩|⟨b1,b2,b3⟩
  ·rw[a1,b1]
  ·exact absurd (y.inj o q B B' k D b3 hb hb').symm b2
  ·exact absurd (y.inj p o B B' k a3 b2 hb hb') D
  exact y.inj p q B B' k a3 b3 hb hb'
 ·rcases inv q B hB with⟨a1,D⟩|⟨a1,D,a3⟩
  ·obtain⟨ob,hob⟩:=y.dom o B D
   have:=Ph (o:=o) (o':=o') σ.hp o ob hn hob
   rcases Gv o o o' with⟨_,e⟩|⟨e,_⟩
   ·rw[e]at this;rw[a1];exact⟨_,this⟩
   exact absurd rfl e
  obtain⟨ob,hob⟩:=y.dom q B a3
  have:=Ph (o:=o) (o':=o') σ.hp q ob hn hob
  rcases Gv q o o' with⟨e,_⟩|⟨_,e⟩
  ·exact absurd e D
  rw[e]at this;exact⟨_,this⟩
 ·rcases inv q B hB with⟨a1,D⟩|⟨a1,D,a3⟩
  ·exact y.lt o B k D hk
  exact y.lt q B k a3 hk
 ·rcases inv q B hB with⟨a1,D⟩|⟨a1,D,a3⟩
  ·exact y.new o B k D hk hlt
  exact y.new q B k a3 hk hq
 ·rcases inv q B hB with⟨a1,D⟩|⟨a1,D,a3⟩
  ·have:o'<615:=by
    rcases DH o' 615 with h | h
    ·exact h
    rw[PV h]at ho';cases ho'
   omega
  exact y.stay.1 q B hq a3
 ·obtain⟨v',hv',rfl⟩:=Qen _ _ _ hv
  obtain⟨x,hx,hrep⟩:=y.frame t v' hv'
  exact⟨x,hx,(up hrep).ren h1 h2⟩
 obtain⟨p,ob',e1,e2,rfl⟩:=PX σ.hp q ob hn hq
 rcases y.heap p ob' e2 with⟨B,hB,hrep⟩|⟨hnn,hz⟩
 ·have hrep':JL φ (Xj C φ' w) w B ob':=hrep.mono (λ_ _ h=>h) (λk hk=>⟨hI k hk,rfl⟩) λ_ _=>rfl
  refine .inl ⟨B,?_,hrep'.ren h1 h2⟩
  rcases Gv p o o' with⟨a1,D⟩|⟨a1,D⟩
  ·rw[e1,D];exact h1 B (a1▸hB)
  rw[e1,D];exact h2 p B a1 hB
 refine .inr ⟨?_,hz.ren⟩
 rcases Gv p o o' with⟨a1,D⟩|⟨a1,D⟩
 ·rw[e1,D];simp only[φ',if_true];rw[<-a1];exact hnn
 have:p≠o':=λe=>by rw[e,hn]at e2;cases e2
 rw[e1,D];simp only[φ',if_neg this,if_neg a1];exact hnn
end
section
variable {P:Program}{C:XA}{ops:Array Oper}{σ:St}{Q:Exit->St->Prop}{c:Code}
def AL.ren {rest:L_ Oper}(o o':Nat)(ho:Nat.ble 615 o=false)(y:Nat.ble 615 o'=false)(hn:look σ.hp o'=none)(h:AL P C ops rest (σ.ren o o') Q):AL P C ops rest σ Q:=
 AL.weaken (λ_ _ D=>D.ren o o' ho y hn) h
def Ys.ren (o o':Nat)(ho:Nat.ble 615 o=false)(y:Nat.ble 615 o'=false)(hn:look σ.hp o'=none)(h:Ys P C c (σ.ren o o') Q):Ys P C c σ Q:=
 Ys.weaken (λ_ _ D=>D.ren o o' ho y hn) h
end
def QlK {α:Type}{f:α->L_ V}(h:∀x,(f x).all V.sca=true)(l:L_ α):∀r∈l.map f,∀v∈r,v.sca=true:=by
 intro r y v D
 obtain⟨x,_,rfl⟩:=Yl.1 y
 have:=h x
 rw[XE]at this
 exact this v D
structure DF where
 d:Nat
 v:V
 ob:Option Ob
def St.addF (σ:St)(x:DF):St:=match x.ob with
 | none=>σ.put x.d x.v
 | some ob=>(σ.set x.d ob).put x.d x.v
def ZK (σ:St)(x:DF):Prop:=look σ.fr x.d=some x.v/\∀ob,x.ob=some ob->look σ.hp x.d=some ob
def JB (P:Program)(C:XA)(ops:Array Oper)(o:Oper)(σ σ':St):Prop:=
 ∀a w,R C σ a w->∀(K:Act->World->Prop) (Q:Exit->Act->World->Prop),(∀h w',R C σ' h w'->K h w')->
  if Region.wanted o (yielded ops a.tmps)then o.wpIn C.F 0 P a w K Q else K (a.put o.dst undef) w
section
variable {P:Program}{C:XA}{ops:Array Oper}{σ σ':St}{Q:Exit->St->Prop}{o:Oper}
def JB.run (hg:o.guard=none)(h:Qf P C o σ σ'):JB P C ops o σ σ':=by
 intro a w D K Q y
 simp only[Region.wanted,hg,if_true]
 exact h a w D K Q y
def JB.runG {j d:Nat}{c t:Bool}(hg:o.guard=some (j,t))(hj:((ops[j]?).bind (·.dst))=some d)(hv:look σ.fr d=some (.b c))(hc:c=t)(h:Qf P C o σ σ'):JB P C ops o σ σ':=by
 intro a w y K Q D
 subst hc
 simp only[Region.wanted,hg,y.yielded hj hv,beq_self_eq_true,if_true]
 exact h a w y K Q D
def JB.pass {j d t:Nat}{c u:Bool}(hg:o.guard=some (j,u))(hj:((ops[j]?).bind (·.dst))=some d)(hv:look σ.fr d=some (.b c))(D:c=!u)(ho:o.dst=some t)(ht:B_ t C):
  JB P C ops o σ (σ.put t (.lit undef)):=by
 intro a w h K Q y
 simp only[Region.wanted,hg,h.yielded hj hv]
 rw[if_neg (by subst D;cases u<;>decide)]
 obtain⟨φ,hr⟩:=h
 rw[ho]
 exact y _ _ ⟨φ,hr.put (JK ht) (.dat (.lit _))⟩
def JB.passU {j d t:Nat}{u:Bool}(D:o.guard=some (j,u))(hj:((ops[j]?).bind (·.dst))=some d)(hv:look σ.fr d=some (.lit undef))(ho:o.dst=some t)(ht:B_ t C):
  JB P C ops o σ (σ.put t (.lit undef)):=by
 intro a w h K Q y
 simp only[Region.wanted,D,h.unyielded hj hv]
 rw[if_neg (by simp)]
 obtain⟨φ,hr⟩:=h
 rw[ho]
 exact y _ _ ⟨φ,hr.put (JK ht) (.dat (.lit _))⟩
def Ix (o:Oper)(j:Nat):Bool:=o.after.toList.any λe=>Region.binds .any e&&Nat.beq e.on j
def QfA (ops:Array Oper):Bool:=(List.range ops.size).all λi=>((ops[i]?).map λo=>o.after.toList.all λe=>!Region.binds .any e||Nat.ble (e.on+1) i).getD true
def Bc : L_ Nat->Bool
 | []=>true
 | k::r=>!XJ r k&&Bc r
structure Mid (C:XA) (base:St) (fs:List DF) (listed:Array Bool) (σ:St):Prop where
 fr:∀t v,look base.fr t=some v->look σ.fr t=some v
 hp:∀o ob,look base.hp o=some ob->look σ.hp o=some ob
 did:∀(i:Nat) x,fs[i]? = some x->listed[i]? = some true->ZK σ x
 not:∀(i:Nat) x,fs[i]? = some x->listed[i]? ≠ some true->look σ.hp x.d=none
def Mc {y:Array Bool}{i:Nat}(hs:y.size=ops.size):i∈Region.ready .any ops y↔∃o,ops[i]? = some o/\y[i]? = some false/\∀e∈o.after,Region.binds .any e=true->y[e.on]? = some true:=by
 unfold Region.ready
 rw[Fq,Fs]
 constructor
 ·rintro ⟨hi,h⟩
  rw[QL]at h
  obtain⟨h1,h2⟩:=h
  have D:i<y.size:=by omega
  refine⟨ops[i],GZ hi,?_,?_⟩
  ·rw[GZ D]
   simp[Array.getD,D]at h1
   rw[h1]
  intro e he hb
  simp only[GZ hi,DJ,OR,Array.all_eq_true_iff_forall_mem]at h2
  have:=h2 e he
  simp only[hb,Fo,Bool.false_or]at this
  by_cases hlt:e.on<y.size
  ·rw[GZ hlt]
   simp[Array.getD,hlt]at this
   rw[this]
  simp[Array.getD,hlt]at this
 rintro ⟨o,ho,hl,hd⟩
 have hi:i<ops.size:=(Ud.1 ho).1
 refine⟨hi,?_⟩
 rw[QL]
 have D:i<y.size:=by omega
 rw[GZ D]at hl
 refine⟨by simp[Array.getD,D,Option.some.inj hl],?_⟩
 simp only[ho,DJ,OR,Array.all_eq_true_iff_forall_mem]
 intro e he
 cases hb:Region.binds .any e with
 | false=>rfl
 | true=>
  have:=hd e he hb
  obtain⟨hlt,hv⟩:=Ud.1 this
  simp[Array.getD,hlt,hv]
def Qbh (ops:Array Oper)(h:Array Bool):Prop:=∀(i:Nat) o,ops[i]? = some o->h[i]? = some true->∀e∈o.after,Region.binds .any e=true->h[e.on]? = some true
def Qbh.set {y:Array Bool}(hs:y.size=ops.size)(h:Qbh ops y){i:Nat}(hi:i∈Region.ready .any ops y):Qbh ops (y.setIfInBounds i true):=by
 obtain⟨o,ho,hl,hd⟩:=(Mc hs).1 hi
 have keep:∀(k:Nat),y[k]? = some true->(y.setIfInBounds i true)[k]? = some true:=by
  intro k hk
  rw[TW]
  split
  ·rename_i e;subst e;rw[if_pos (Ud.1 hk).1]
  exact hk
 intro k o' D hk e he hb
 by_cases e1:i=k
 ·subst e1
  rw[ho]at D;cases D
  exact keep _ (hd e he hb)
 rw[Qhf e1]at hk
 exact keep _ (h k o' D hk e he hb)
def Qih (D:QfA ops=true){y:Array Bool}(hs:y.size=ops.size){k:Nat}(hk:k<ops.size)(hl:y[k]? ≠ some true)(hall:∀i,i<k->y[i]? = some true):k∈Region.ready .any ops y:=by
 rw[Mc hs]
 have hk':k<y.size:=by omega
 refine⟨ops[k],GZ hk,?_,λe he hb=>?_⟩
 ·rw[GZ hk']at hl ⊢
  cases h:y[k]with
  | true=>rw[h]at hl;exact absurd rfl hl
  | false=>rfl
 rw[QfA,XE]at D
 have:=D k (Fs.2 hk)
 simp only[GZ hk,DJ,OR,XE]at this
 have:=this e (Qdl.2 he)
 simp only[hb,Fo,Bool.false_or]at this
 exact hall _ (JK this)
def Qhi {y:Array Bool}(n:Nat)(h:∃i,i<n/\y[i]? ≠ some true):∃k,k<n/\y[k]? ≠ some true/\∀i,i<k->y[i]? = some true:=by
 induction n with
 | zero=>obtain⟨i,hi,_⟩:=h;omega
 | succ n ih=>
  by_cases h':∃i,i<n/\y[i]? ≠ some true
  ·obtain⟨k,h1,h2,h3⟩:=ih h';exact⟨k,by omega,h2,h3⟩
  obtain⟨i,hi,hn⟩:=h
  have:i=n:=by
   rcases DH i n with h | h
   ·exact absurd ⟨i,h,hn⟩ h'
   omega
  subst this
  refine⟨i,by omega,hn,λj hj=>?_⟩
  by_cases D:y[j]? = some true
  ·exact D
  exact absurd ⟨j,hj,D⟩ h'
def FX {l:L_ Nat}{k:Nat}:XJ l k=true↔k∈l:=by
 induction l with
 | nil=>simp[XJ]
 | cons x l y=>
  simp only[XJ,KR,y,XQ]
  constructor
  ·rintro (h | h)
   ·exact .inl (YE h).symm
   exact .inr h
  rintro (h | h)
  ·subst h;exact .inl (by simp)
  exact .inr h
def Dh {l:L_ Nat}:Bc l=true↔l.Nodup:=by
 induction l with
 | nil=>simp[Bc]
 | cons x l ih=>
  simp only[Bc,QL,ih,Ft]
  constructor
  ·rintro ⟨h,y⟩
   refine⟨λhm=>?_,y⟩
   rw[FX.2 hm]at h;cases h
  rintro ⟨h,y⟩
  refine⟨?_,y⟩
  cases D:XJ l x with
  | false=>rfl
  | true=>exact absurd (FX.1 D) h
end
inductive Vw (hp:List (Nat×Ob)) (g sc:Bool) (bad:List Nat) (m:Nat->Nat->Prop):V->V->Prop where
 | dat (v:V):v.datA=true->(sc=true->v.scaA=true)->Vw hp g sc bad m v v
 | nil (z:Nat):Vw hp g sc bad m (.lit (.slice none 0 0)) (.sl z [])
 | see (b n z:Nat) (rs us:List (List V)):g=true->sc=false->XJ bad b=false->look hp b=some (.arr z rs)->n<=rs.length->rs.take n=us->Vw hp g sc bad m (.own b n) (.sl z us)
 | own (a b n:Nat):m a b->Vw hp g sc bad m (.own a n) (.own b n)
 | loc (a b i d:Nat):m a b->Vw hp g sc bad m (.loc a i d) (.loc b i d)
 | map (a b:Nat):m a b->Vw hp g sc bad m (.map a) (.map b)
 | agg (cs us:List V):cs.length=us.length->(∀(j:Nat) c u,cs[j]? = some c->us[j]? = some u->Vw hp g sc bad m c u)->Vw hp g sc bad m (.agg cs) (.agg us)
 | tup (cs us:List V):cs.length=us.length->(∀(j:Nat) c u,cs[j]? = some c->us[j]? = some u->Vw hp g sc bad m c u)->Vw hp g sc bad m (.tup cs) (.tup us)
 | ifc (t:TypeId) (v u:V):Vw hp g sc bad m v u->Vw hp g sc bad m (.ifc t v) (.ifc t u)
 | clo (fn:Fn) (vs us cs ds:List V):vs.length=us.length->cs.length=ds.length->(∀(j:Nat) c u,vs[j]? = some c->us[j]? = some u->Vw hp g sc bad m c u)->
   (∀(j:Nat) c u,cs[j]? = some c->ds[j]? = some u->Vw hp g sc bad m c u)->Vw hp g sc bad m (.clo fn vs cs) (.clo fn us ds)
 | forget (v:V):Vw hp g sc bad m v .J
section
variable {hp:H_}{g sc:Bool}{bad:L_ Nat}{m:Nat->Nat->Prop}{φ ψ:Nat->O_ Xa}{I J:Nat->Prop}{w w':World}
def Vw.sound (hm:∀a b B,m a b->φ a=some B->ψ b=some B)(hI:sc=false->∀k,I k->J k/\w'.heap[k]? = w.heap[k]?)
  (hown:∀b z rs B,g=true->XJ bad b=false->look hp b=some (.arr z rs)->φ b=some B->J B.b/\w'.heap[B.b]? = w.heap[B.b]? /\ Yn I w B z rs)
  {v u:V} (h:Vw hp g sc bad m v u):∀{x:Value},QO φ I w x v->QO ψ J w' x u:=by
 induction h with
 | dat v hv hs=>
  intro x D
  cases sc with
  | true=>exact D.scaA (hs rfl)
  | false=>exact D.datA hv (hI rfl)
 | nil z=>intro x D;rw[D.lit_inv];exact .dat (.sl0 _ _ _)
 | see b n z rs us hg hsc hbad hb hle hu=>
  intro x D
  subst hu
  rcases D.own_inv with⟨rfl,rfl⟩|⟨B,hB,hcap,rfl⟩
  ·simp only[List.take_zero];exact .dat (.sl0 _ _ _)
  obtain⟨hJ,hw,rfl,hrl,hok,cs,E,h1,h2,h3⟩:=hown b z rs B hg hbad hb hB
  refine .dat (.sl B.b B.off n B.cap B.z _ (λj=>cs.getD (B.off+j) undef) hJ (by simp;omega) hcap (λr hr'=>hok r (Ai hr')) (λj hj=>?_) (λi r hi j v hj=>?_))
  ·have hle2:n*B.z<=B.cap*B.z:=JA _ hcap
   have:B.off+j<cs.size:=by omega
   simp[World.cell?,hw,h1,Array.getD,this]
  have hi':rs[i]? = some r:=by
   rw[Jy]at hi
   by_cases hin:i<n
   ·rwa[if_pos hin]at hi
   rw[if_neg hin]at hi;simp at hi
  obtain⟨y,hy,hd⟩:=h3 i r hi' j v hj
  have:cs.getD (B.off+(i*B.z+j)) undef=y:=by simp[TV,hy]
  rw[this]
  exact hd.mono (hI hsc)
 | own a b n hab=>
  intro x D
  rcases D.own_inv with⟨rfl,rfl⟩|⟨B,hB,hcap,rfl⟩
  ·exact .own0 b
  exact .own b n B (hm a b B hab hB) hcap
 | loc a b i d hab=>intro x D;obtain⟨B,hB,rfl⟩:=D.loc_inv;exact .loc b i d B (hm a b B hab hB)
 | map a b hab=>intro x D;obtain⟨B,hB,rfl⟩:=D.map_inv;exact .map b B (hm a b B hab hB)
 | agg cs us hl _ ih=>
  intro x D
  obtain⟨xs,rfl,hs,hc⟩:=D.agg_inv
  refine .agg xs us (by omega) λj y u hy hu=>?_
  have hj:j<cs.length:=by rw[<-hs];exact(Ud.1 hy).1
  exact ih j cs[j] u (QR hj) hu (hc j y _ hy (QR hj))
 | tup cs us hl _ ih=>
  intro x D
  obtain⟨xs,rfl,hs,hc⟩:=D.tup_inv
  refine .tup xs us (by omega) λj y u hy hu=>?_
  have hj:j<cs.length:=by rw[<-hs];exact(Ud.1 hy).1
  exact ih j cs[j] u (QR hj) hu (hc j y _ hy (QR hj))
 | ifc t v u _ ih=>intro x D;obtain⟨y,rfl,hy⟩:=D.ifc_inv;exact .ifc t y u (ih hy)
 | clo fn vs us cs ds h1 h2 _ _ ih1 ih2=>
  intro x D
  obtain⟨xs,ys,rfl,e1,e2,e3,e4⟩:=D.clo_inv
  refine .clo fn xs ys us ds (by omega) (by omega) (λj y u hy hu=>?_) (λj y u hy hu=>?_)
  ·have hj:j<vs.length:=by rw[<-e1];exact(Ud.1 hy).1
   exact ih1 j vs[j] u (QR hj) hu (e3 j y _ hy (QR hj))
  have hj:j<cs.length:=by rw[<-e2];exact(Ud.1 hy).1
  exact ih2 j cs[j] u (QR hj) hu (e4 j y _ hy (QR hj))
 | forget v=>intro x D;exact .dat (.J x)
inductive VP (hp:List (Nat×Ob)) (g sc:Bool) (bad:List Nat) (m:Nat->Nat->Prop):Ob->Ob->Prop where
 | var (cs us:List V):cs.length=us.length->(∀(j:Nat) c u,cs[j]? = some c->us[j]? = some u->Vw hp g sc bad m c u)->VP hp g sc bad m (.var cs) (.var us)
 | arr (z:Nat) (rs:List (List V)):(sc=true->∀r∈rs,∀v∈r,v.sca=true)->VP hp g sc bad m (.arr z rs) (.arr z rs)
 | map (l:List (V×V)):(sc=true->∀p∈l,p.1.sca=true/\p.2.sca=true)->VP hp g sc bad m (.map l) (.map l)
 | lp (l:Nat) (K:AR) (cs us:List V) (q:Nat):cs.length=us.length->(∀(j:Nat) c u,cs[j]? = some c->us[j]? = some u->Vw hp g sc bad m c u)->VP hp g sc bad m (.lp l K cs q) (.lp l K us q)
 | grp (z:Nat) (l:List (V×List (List V))) (lk:Option V):sc=false->VP hp g sc bad m (.grp z l lk) (.grp z l lk)
 | tbl (A:Nat->Nat) (z:Nat) (rs:List (List V)):sc=false->VP hp g sc bad m (.tbl A z rs) (.tbl A z rs)
def VP.nil {ob ob':Ob}(h:VP hp g sc bad m ob ob')(y:ob.Nil):ob'.Nil:=by cases h<;>first | exact y | exact y.elim
def VP.sound (hm:∀a b B,m a b->φ a=some B->ψ b=some B)(hI:sc=false->∀k,I k->J k/\w'.heap[k]? = w.heap[k]?)
  (hown:∀b z rs B,g=true->XJ bad b=false->look hp b=some (.arr z rs)->φ b=some B->J B.b/\w'.heap[B.b]? = w.heap[B.b]? /\ Yn I w B z rs)
  {B:Xa} (hB:∀k,B.has k->w'.heap[k]? = w.heap[k]?) {ob ob':Ob} (h:VP hp g sc bad m ob ob') (hr:JL φ I w B ob):JL ψ J w' B ob':=by
 cases h with
 | var cs us hl hv=>
  obtain⟨xs,E,h1,h2,h0,h3⟩:=hr
  refine⟨xs,E,(hB _ B.self).trans h1,by omega,h0,λj x u y hu=>?_⟩
  have hj:j<cs.length:=by rw[<-h2];exact(Ud.1 y).1
  exact(hv j cs[j] u (QR hj) hu).sound hm hI hown (h3 j x _ y (QR hj))
 | arr z rs hs=>
  cases sc with
  | false=>exact Yn.mono (hI rfl) (hB _ B.self) hr
  | true=>
   obtain⟨h1,h2,h3,cs,E,h4,h5,h6⟩:=hr
   exact⟨h1,h2,h3,cs,E,(hB _ B.self).trans h4,h5,λi r hi j v hj=>let ⟨x,y,hd⟩:=h6 i r hi j v hj;⟨x,y,hd.sca (hs rfl r (XU hi) v (XU hj))⟩⟩
 | map l hs=>
  cases sc with
  | false=>exact Df.mono (hI rfl) (hB _ B.self) hr
  | true=>
   obtain⟨es,clock,h1,h2,h3,h4,h5,h6⟩:=hr
   exact⟨es,clock,(hB _ B.self).trans h1,h2,h3,h4,λx y=>let ⟨p,hp,a,b⟩:=h5 x y;⟨p,hp,a.sca (hs rfl p hp).1,b.sca (hs rfl p hp).2⟩,λp hp=>let ⟨x,y,a,b⟩:=h6 p hp;⟨x,y,a.sca (hs rfl p hp).1,b.sca (hs rfl p hp).2⟩⟩
 | lp l K cs us q hl hv=>
  obtain⟨tmps,D,rfl,h1,h2,h3,h4⟩:=hr
  refine⟨tmps,D,rfl,h1,(hB _ B.self).trans h2,by omega,λj x u y hu=>?_⟩
  have hj:j<cs.length:=by rw[<-h3];exact(Ud.1 y).1
  exact(hv j cs[j] u (QR hj) hu).sound hm hI hown (h4 j x _ y (QR hj))
 | grp z l lk hs=>exact Gu.mono (hI hs) hB hr
 | tbl A z rs hs=>exact Ue.mono (hI hs) hB hr
end
inductive Vws (hp:List (Nat×Ob)) (g sc:Bool) (bad:List Nat) (m:Nat->Nat->Prop):List V->List V->Prop where
 | nil:Vws hp g sc bad m [] []
 | cons {v u:V} {vs us:List V}:Vw hp g sc bad m v u->Vws hp g sc bad m vs us->Vws hp g sc bad m (v::vs) (u::us)
def Vws.get {hp:H_}{g sc:Bool}{bad:L_ Nat}{m:Nat->Nat->Prop}:∀{vs us:L_ V},Vws hp g sc bad m vs us->
  vs.length=us.length/\∀(j:Nat) v u,vs[j]? = some v->us[j]? = some u->Vw hp g sc bad m v u:=by
 intro vs us h
 induction h with
 | nil=>simp
 | cons h1 _ ih=>
  refine⟨by simp[ih.1],λj v u D y=>?_⟩
  cases j with
  | zero=>simp at D y;subst D;subst y;exact h1
  | succ j=>exact ih.2 j v u D y
inductive Iy (hp:List (Nat×Ob)) (g sc:Bool) (bad:List Nat) (m:Nat->Nat->Prop) (src:List (Nat×Ob)):List (Nat×Nat)->List (Nat×Ob)->Prop where
 | nil:Iy hp g sc bad m src [] []
 | cons {d s:Nat} {ob ob':Ob} {ms:List (Nat×Nat)} {r:List (Nat×Ob)}:look src s=some ob->VP hp g sc bad m ob ob'->Iy hp g sc bad m src ms r->Iy hp g sc bad m src ((d,s)::ms) ((d,ob')::r)
section
variable {hp src:H_}{g sc:Bool}{bad:L_ Nat}{m:Nat->Nat->Prop}
def Iy.get {ms:L_ (Nat×Nat)}{D:H_}(h:Iy hp g sc bad m src ms D):(∀d ob',look D d=some ob'->∃s ob,look ms d=some s/\look src s=some ob/\VP hp g sc bad m ob ob')/\
  ∀d s,look ms d=some s->∃ob',look D d=some ob':=by
 induction h with
 | nil=>exact⟨λ_ _ h=>(by cases h),λ_ _ h=>(by cases h)⟩
 | @cons d s ob ob' ms r h1 h2 _ ih=>
  refine⟨λy o h=>?_,λy s' h=>?_⟩
  ·by_cases e:d=y
   ·subst e;rw[QC]at h ⊢;cases h;exact⟨s,ob,rfl,h1,h2⟩
   rw[QA _ _ e]at h ⊢;exact ih.1 y o h
  by_cases e:d=y
  ·subst e;rw[QC]at h ⊢;exact⟨_,rfl⟩
  rw[QA _ _ e]at h ⊢;exact ih.2 y s' h
end
def Et (l:L_ (Nat×Nat)):L_ Nat:=l.map Prod.snd
def FY : L_ (Nat×Nat)->Bool
 | []=>true
 | (_,s)::r=>!(XJ (Et r) s)&&FY r
def Qbi : ∀{l:L_ (Nat×Nat)} {d s:Nat},look l d=some s->XJ (Et l) s=true:=by
 intro l
 induction l with
 | nil=>intro d s h;cases h
 | cons p l y=>
  intro d s h
  obtain⟨k,u⟩:=p
  by_cases e:k=d
  ·subst e;rw[QC]at h;cases h;simp[Et,XJ]
  rw[QA _ _ e]at h
  have:=y h
  simp only[Et,GK,XJ,KR]
  exact .inr this
def Qdb : ∀{l:L_ (Nat×Nat)},FY l=true->∀{a b s:Nat},look l a=some s->look l b=some s->a=b:=by
 intro l
 induction l with
 | nil=>intro _ a b s h;cases h
 | cons p l ih=>
  intro hi a b s y D
  obtain⟨k,u⟩:=p
  rw[FY,QL]at hi
  by_cases e1:k=a<;>by_cases e2:k=b
  ·rw[<-e1,<-e2]
  ·subst e1;rw[QC]at y;cases y;rw[QA _ _ e2]at D
   rw[Qbi D]at hi;simp at hi
  ·subst e2;rw[QC]at D;cases D;rw[QA _ _ e1]at y
   rw[Qbi y]at hi;simp at hi
  rw[QA _ _ e1]at y;rw[QA _ _ e2]at D;exact ih hi.2 y D
def Qhj : ∀{l:L_ (Nat×Nat)} {s:Nat},XJ (Et l) s=true->∃d,(d,s)∈l:=by
 intro l
 induction l with
 | nil=>intro s h;cases h
 | cons p l D=>
  intro s h
  simp only[Et,GK,XJ,KR]at h
  rcases h with h | h
  ·exact⟨p.1,by rw[<-YE h];exact YF⟩
  obtain⟨d,y⟩:=D h;exact⟨d,Jz _ y⟩
def St.killL (σ:St):L_ Nat->St
 | []=>σ
 | b::r=>(σ.kill b).killL r
def Vc (φ:Nat->O_ Xa):L_ Nat->Nat->O_ Xa
 | []=>φ
 | b::r=>Vc (EP φ b) r
def EQ : ∀{ds:L_ Nat} {φ:Nat->O_ Xa} {k:Nat} {B:Xa},Vc φ ds k=some B->XJ ds k=false/\φ k=some B:=by
 intro ds
 induction ds with
 | nil=>intro φ k B h;exact⟨rfl,h⟩
 | cons b ds ih=>
  intro φ k B h
  obtain⟨y,D⟩:=ih h
  obtain⟨h3,h4⟩:=Kn D
  refine⟨?_,h4⟩
  simp only[XJ,KA]
  refine⟨?_,y⟩
  cases hb:Nat.beq b k with
  | false=>rfl
  | true=>exact absurd (YE hb).symm h3
def ZL : ∀{ds:L_ Nat} {φ:Nat->O_ Xa} {k:Nat},XJ ds k=false->Vc φ ds k=φ k:=by
 intro ds
 induction ds with
 | nil=>intro φ k h;rfl
 | cons b ds y=>
  intro φ k h
  simp only[XJ,KA]at h
  rw[Vc,y h.2,Dy (λe=>by subst e;simp at h)]
def QgL : ∀(ds:L_ Nat) (σ:St) (t:Nat) (v:V),look (σ.killL ds).fr t=some v->∃y,look σ.fr t=some y/\∀φ I w x,QO φ I w x y->QO (Vc φ ds) I w x v:=by
 intro ds
 induction ds with
 | nil=>intro σ t v h;exact⟨v,h,λ_ _ _ _ h=>h⟩
 | cons b ds ih=>
  intro σ t v h
  obtain⟨v1,D,h2⟩:=ih (σ.kill b) t v h
  obtain⟨v2,h3,rfl⟩:=OF _ _ _ D
  exact⟨v2,h3,λφ I w x hx=>h2 _ _ _ _ (hx.kill (λo B ho hB=>by rw[Dy ho];exact hB) λk hk=>⟨hk,rfl⟩)⟩
def QaB : ∀(ds:L_ Nat) (σ:St) (o:Nat) (ob:Ob),look (σ.killL ds).hp o=some ob->XJ ds o=false/\∃ob',look σ.hp o=some ob'/\
  (∀φ I w B,JL φ I w B ob'->JL (Vc φ ds) I w B ob)/\(ob'.Nil->ob.Nil):=by
 intro ds
 induction ds with
 | nil=>intro σ t v h;exact⟨rfl,v,h,λ_ _ _ _ h=>h,λh=>h⟩
 | cons b ds ih=>
  intro σ t v h
  obtain⟨h0,v1,h1,h2,y⟩:=ih (σ.kill b) t v h
  obtain⟨hne,v2,h3,rfl⟩:=KO _ _ _ h1
  refine⟨?_,v2,h3,λφ I w B D=>h2 _ _ _ _ (D.kill (λo B ho D=>by rw[Dy ho];exact D) (λk hk=>⟨hk,rfl⟩) λ_ _=>rfl),λe=>y e.kill⟩
  simp only[XJ,KA]
  refine⟨?_,h0⟩
  cases hb:Nat.beq b t with
  | false=>rfl
  | true=>exact absurd (YE hb).symm hne
def Qeo : ∀(ds:L_ Nat) (σ:St) (o:Nat) (ob:Ob),XJ ds o=false->look σ.hp o=some ob->∃ob',look (σ.killL ds).hp o=some ob':=by
 intro ds
 induction ds with
 | nil=>intro σ o ob _ h;exact⟨ob,h⟩
 | cons b ds D=>
  intro σ o ob y h
  simp only[XJ,KA]at y
  exact D (σ.kill b) o _ y.2 (Uf _ _ _ (λe=>by subst e;simp at y) h)
def Qhb : O_ Ob->Bool
 | some _=>true
 | none=>false
def Qgo {x:O_ Ob}(h:Qhb x=true):∃ob,x=some ob:=by
 cases x with
 | none=>cases h
 | some ob=>exact⟨ob,rfl⟩
def Qbj (x:O_ Nat)(n:Nat):Bool:=match x with
 | some k=>Nat.beq k n
 | none=>false
def ZM {x:O_ Nat}{n:Nat}(h:Qbj x n=true):x=some n:=by
 cases x with
 | none=>cases h
 | some k=>rw[YE h]
def DK (σ:St)(M N:L_ (Nat×Nat))(dead:L_ Nat)(outs:H_):Bool:=
 FY M&&FY N&&M.all (λp=>Nat.ble 615 p.1&&(XJ dead p.2||(Nat.ble 617 p.1&&Qbj (look N p.2) p.1&&Qhb (look outs p.1)))) &&
 N.all (λp=>(XJ dead p.1||XJ (Et M) p.1||(look σ.hp p.1).isNone)&&(Nat.ble 615 p.1||!(Nat.ble 615 p.2)||M.all (λq=>!(Nat.ble 615 q.2)||(Nat.ble 617 q.1&&Qhb (look outs q.1)&&Qbj (look N q.2) q.1))) &&
  (!(Nat.ble 617 p.1)||(Nat.ble 617 p.2&&Qbj (look M p.2) p.1)))
structure Names (σ:St) (M N:List (Nat×Nat)) (dead:List Nat) (outs:List (Nat×Ob)):Prop where
 injM:∀{a b s:Nat},look M a=some s->look M b=some s->a=b
 injN:∀{a b s:Nat},look N a=some s->look N b=some s->a=b
 param:∀{c a:Nat},look M c=some a->615<=c
 keep:∀{c a:Nat},look M c=some a->XJ dead a=true\/(617<=c/\look N a=some c/\∃ob,look outs c=some ob)
 fresh:∀{a c:Nat},look N a=some c->XJ dead a=true\/(∃c',look M c'=some a)\/look σ.hp a=none
 low:∀{a c:Nat},look N a=some c->a<615->c<615\/∀{c' a':Nat},look M c'=some a'->a'<615\/(617<=c'/\(∃ob,look outs c'=some ob)/\look N a'=some c')
 stay:∀{a c:Nat},look N a=some c->617<=a->617<=c/\look M c=some a
def Ab {a n:Nat}(h:(!(Nat.ble n a))=true):a<n:=by
 rcases DH a n with y | y
 ·exact y
 rw[PV y]at h;cases h
def KE : ∀{l:L_ (Nat×Nat)},FY l=true->∀{d s:Nat},(d,s)∈l->(l.map Prod.fst).Nodup->look l d=some s:=by
 intro l
 induction l with
 | nil=>intro _ d s h;cases h
 | cons p l ih=>
  intro D d s h y
  obtain⟨k,u⟩:=p
  rw[FY,QL]at D
  rw[GK,Ft]at y
  rcases XQ.1 h with h | h
  ·cases h;exact QC _ _ _
  have hk:k≠d:=λe=>y.1 (by rw[e];exact Yl.2 ⟨(d,s),h,rfl⟩)
  rw[QA _ _ hk];exact ih D.2 h y.2
def Names.of {σ:St}{M N:L_ (Nat×Nat)}{dead:L_ Nat}{outs:H_}(h:DK σ M N dead outs=true)(hnd:(M.map Prod.fst).Nodup):Names σ M N dead outs:=by
 simp only[DK,QL,XE]at h
 obtain⟨⟨⟨D,h2⟩,h3⟩,h4⟩:=h
 have pM:∀{c a:Nat},look M c=some a->Nat.ble 615 c=true/\(XJ dead a=true\/(Nat.ble 617 c=true/\Qbj (look N a) c=true)/\Qhb (look outs c)=true):=λy=>by
  have:=h3 _ (Je y)
  simpa only[KR,QL] using this
 have pN:=λ{a c:Nat} (y:look N a=some c)=>h4 _ (Je y)
 refine⟨Qdb D,Qdb h2,λy=>JK (pM y).1,λy=>?_,λy=>?_,λy hlt=>?_,λy hge=>?_⟩
 ·rcases(pM y).2 with h | ⟨⟨a1,a2⟩,a3⟩
  ·exact .inl h
  exact .inr ⟨JK a1,ZM a2,Qgo a3⟩
 ·have:=(pN y).1.1
  simp only[KR]at this
  rcases this with(h | h) | h
  ·exact .inl h
  ·obtain⟨c',hc'⟩:=Qhj h
   exact .inr (.inl ⟨c',KE D hc' hnd⟩)
  exact .inr (.inr (by simpa using h))
 ·have:=(pN y).1.2
  simp only[KR]at this
  rcases this with(h | h) | h
  ·exact absurd (JK h) (by omega)
  ·exact .inl (Ab h)
  refine .inr λ{c' a'} hl'=>?_
  rw[XE]at h
  have:=h _ (Je hl')
  rw[KR,QL,QL]at this
  rcases this with h | ⟨⟨D,h2⟩,h3⟩
  ·exact .inl (Ab h)
  exact .inr ⟨JK D,Qgo h2,ZM h3⟩
 have:=(pN y).2
 simp only[KR,QL]at this
 rcases this with h | h
 ·exact absurd (Ab h) (by omega)
 exact⟨JK h.1,ZM h.2⟩
def Qcp (C:XA)(φ:Nat->O_ Xa)(w:World)(g:Bool)(bad:L_ Nat)(k:Nat):Prop:=Xj C φ w k\/(g=true/\∃o B,φ o=some B/\B.has k/\XJ bad o=false)
section
variable {P:Program}{C:XA}{φ:Nat->O_ Xa}{σ:St}{a:Act}{w:World}{o:Oper}
def Ins.of_vals {g:Bool}{M:L_ (Nat×Nat)}{hsC:H_}{vs us:L_ V}{vals:L_ Value}(hr:RR C φ σ a w)(h1:vals.length=vs.length)
  (h2:∀(j:Nat) x v,vals[j]? = some x->vs[j]? = some v->QO φ (Xj C φ w) w x v)
  (hinj:∀{a b s:Nat},look M a=some s->look M b=some s->a=b) (hpar:∀{c a:Nat},look M c=some a->615<=c)
  (hv:Vws σ.hp g false (Et M) (λa b=>look M b=some a) vs us) (hobs:Iy σ.hp g false (Et M) (λa b=>look M b=some a) σ.hp M hsC):
  Ins (Qcp C φ w g (Et M)) (λc=>(look M c).bind φ) w vals.toArray us hsC:=by
 obtain⟨h3,h4⟩:=hv.get
 obtain⟨h5,h6⟩:=hobs.get
 have hm:∀a b B,look M b=some a->φ a=some B->(look M b).bind φ=some B:=λa b B h1 h2=>by rw[h1];exact h2
 have hI:false=false->∀k,Xj C φ w k->Qcp C φ w g (Et M) k/\w.heap[k]? = w.heap[k]? := λ_ k D=>⟨.inl D,rfl⟩
 have hown:∀b z rs B,g=true->XJ (Et M) b=false->look σ.hp b=some (.arr z rs)->φ b=some B->Qcp C φ w g (Et M) B.b/\w.heap[B.b]? = w.heap[B.b]? /\ Yn (Xj C φ w) w B z rs:=
  λb z rs B hg y hb hB=>⟨.inr ⟨hg,b,B,hB,B.self,y⟩,rfl,hr.block hB hb⟩
 have inv:∀{c:Nat} {B:Xa},(look M c).bind φ=some B->∃s,look M c=some s/\φ s=some B:=λh=>by
  obtain⟨s,h1,h2⟩:=My.1 h;exact⟨s,h1,h2⟩
 refine⟨λk D=>?_,λc c' B B' k e1 e2 b1 b2=>?_,λc B e=>?_,by simp;omega,λj x u hx hu=>?_,λc ob e=>?_⟩
 ·rcases D with D | ⟨_,o,B,hB,D,_⟩
  ·exact D.1
  exact(hr.lt o B k hB D).1
 ·obtain⟨s,e3,e4⟩:=inv e1
  obtain⟨s',e5,e6⟩:=inv e2
  have:=hr.inj s s' B B' k e4 e6 b1 b2
  subst this
  exact hinj e3 e5
 ·obtain⟨s,e3,e4⟩:=inv e
  refine⟨hpar e3,λk D=>⟨(hr.lt s B k e4 D).1,λhS=>?_⟩,h6 c s e3⟩
  rcases hS with hS | ⟨_,o,B',hB',hk',y⟩
  ·exact hS.2.2 s B e4 D
  have:=hr.inj o s B' B k hB' e4 hk' D
  subst this
  rw[Qbi e3]at y;cases y
 ·simp only[UA]at hx
  have hj:j<vs.length:=by rw[<-h1];exact(Xe.1 hx).1
  exact(h4 j vs[j] u (QR hj) hu).sound hm hI hown (h2 j x _ hx (QR hj))
 obtain⟨s,ob0,e1,e2,e3⟩:=h5 c ob e
 rcases hr.heap s ob0 e2 with⟨B,hB,hrep⟩|⟨hn,hz⟩
 ·exact .inl ⟨B,by rw[e1];exact hB,e3.sound hm hI hown (λ_ _=>rfl) hrep⟩
 exact .inr ⟨by rw[e1];exact hn,e3.nil hz⟩
def Iz (φ:Nat->O_ Xa)(M N:L_ (Nat×Nat))(dead:L_ Nat)(φ':Nat->O_ Xa):Nat->O_ Xa:=λo=>match look N o with
 | some c=>φ' c
 | none=>Vc φ dead o
def St.after (σ:St)(dead:L_ Nat)(h:H_):St:=⟨(σ.killL dead).fr,h++(σ.killL dead).hp⟩
def ER {α:Type}:∀(l r:L_ (Nat×α)) (t:Nat),look (l++r) t=(look l t).orElse λ_=>look r t:=by
 intro l
 induction l with
 | nil=>intro r t;rfl
 | cons p l h=>
  intro r t
  obtain⟨k,u⟩:=p
  by_cases e:k=t
  ·subst e;rw[List.cons_append,QC,QC];rfl
  rw[List.cons_append,QA _ _ e,QA _ _ e];exact h r t
def RR.after {g:Bool}{M N:L_ (Nat×Nat)}{dead:L_ Nat}{outs hsN hs':H_}{φ':Nat->O_ Xa}{w':World}{x:Value}{v:V}(hr:RR C φ σ a w)(hn:Names σ M N dead outs)
  (ho:Outs (Qcp C φ w g (Et M)) (λc=>(look M c).bind φ) w φ' w' x v hs') (hso:∀c ob,look outs c=some ob->look hs' c=some ob)
  (hM:∀c s,look M c=some s->∃ob,look σ.hp s=some ob) (hback:Iy [] false g [] (λc b=>look N b=some c) outs N hsN):RR C (Iz φ M N dead φ') (σ.after dead hsN) a w'/\∀{r':V},Vw [] false g [] (λc b=>look N b=some c) v r'->
   QO (Iz φ M N dead φ') (Xj C (Iz φ M N dead φ') w') w' x r':=by
 have inv:∀{c:Nat} {B:Xa},(look M c).bind φ=some B->∃s,look M c=some s/\φ s=some B:=λh=>by
  obtain⟨s,h1,h2⟩:=My.1 h;exact⟨s,h1,h2⟩
 have jN:∀{b c:Nat},look N b=some c->Iz φ M N dead φ' b=φ' c:=λh=>by simp only[Iz,h]
 have jO:∀{b:Nat},look N b=none->Iz φ M N dead φ' b=Vc φ dead b:=λh=>by simp only[Iz,h]
 obtain⟨hb1,hb2⟩:=hback.get
 have old:∀{c B k},φ' c=some B->B.has k->k<w.heap.size->∃c' s B',look M c'=some s/\φ s=some B'/\B'.has k:=λD hk hlt=>by
  obtain⟨c',B',h1,h2⟩:=(ho.lt _ _ _ D hk).2 hlt
  obtain⟨s,h3,h4⟩:=inv h1
  exact⟨c',s,B',h3,h4,h2⟩
 have keep:∀o B,Vc φ dead o=some B->Iz φ M N dead φ' o=some B:=λo B D=>by
  cases hl:look N o with
  | none=>rw[jO hl];exact D
  | some c=>
   rw[jN hl]
   obtain⟨h1,h2⟩:=EQ D
   rcases hn.fresh hl with h | ⟨c',h⟩|h
   ·rw[h]at h1;cases h1
   ·rcases hn.keep h with h3 | ⟨h3,h4,ob5,h5⟩
    ·rw[h3]at h1;cases h1
    rw[hl]at h4;cases h4
    exact ho.stay.2 c ob5 B h3 (hso _ _ h5) (by show(look M c).bind φ=some B;rw[h];exact h2)
   rw[hr.none_of_look h]at h2;cases h2
 have untouched:∀k,k<w.heap.size->(∀s B,φ s=some B->B.has k->∀c,look M c≠some s)->w'.heap[k]? = w.heap[k]? := λk hlt hne=>
  ho.kept k hlt λc B D hk=>by obtain⟨s,h1,h2⟩:=inv D;exact hne s B h2 hk c h1
 have hI:∀k,Xj C φ w k->Xj C (Iz φ M N dead φ') w' k/\w'.heap[k]? = w.heap[k]? := λk hk=>by
  refine⟨⟨Aj hk.1 ho.size,hk.2.1,λo B D hh=>?_⟩,untouched k hk.1 λs B D hh=>absurd hh (hk.2.2 s B D)⟩
  cases hl:look N o with
  | none=>rw[jO hl]at D;exact hk.2.2 o B (EQ D).2 hh
  | some c=>
   rw[jN hl]at D
   obtain⟨c',s,B',_,h2,h3⟩:=old D hh hk.1
   exact hk.2.2 s B' h2 h3
 have hA:g=false->∀k,RC (Qcp C φ w g (Et M)) φ' w w' k->Xj C (Iz φ M N dead φ') w' k/\w'.heap[k]? = w'.heap[k]? := λhg k hk=>by
  obtain⟨h1,h2,h3⟩:=hk
  by_cases hlt:k<w.heap.size
  ·rcases h2 hlt with h | ⟨h,_⟩
   ·exact⟨(hI k h).1,rfl⟩
   rw[hg]at h;cases h
  refine⟨⟨h1,λh=>absurd hr.size (by omega),λo B D hh=>?_⟩,rfl⟩
  cases hl:look N o with
  | none=>rw[jO hl]at D;have:=(hr.lt o B k (EQ D).2 hh).1;omega
  | some c=>rw[jN hl]at D;exact h3 c B D hh
 have hmB:∀c b B,look N b=some c->φ' c=some B->Iz φ M N dead φ' b=some B:=λc b B h1 h2=>by rw[jN h1];exact h2
 have hownB:∀b z rs B,false=true->XJ [] b=false->look ([]:H_) b=some (.arr z rs)->φ' b=some B->
   Xj C (Iz φ M N dead φ') w' B.b/\w'.heap[B.b]? = w'.heap[B.b]? /\ Yn (RC (Qcp C φ w g (Et M)) φ' w w') w' B z rs:=λ_ _ _ _ h=>by cases h
 have stay2:∀o ob B,617<=o->look (σ.after dead hsN).hp o=some ob->C.φ0 o=some B->Iz φ M N dead φ' o=some B:=λo ob B hge hob D=>by
  rw[St.after,ER]at hob
  cases hx:look hsN o with
  | some y=>
   obtain⟨c,ob1,h1,h2,h3⟩:=hb1 o _ hx
   obtain⟨h4,h5⟩:=hn.stay h1 hge
   obtain⟨ob2,h6⟩:=hM _ _ h5
   have h7:=hr.stay.2 o ob2 B hge h6 D
   rw[jN h1]
   exact ho.stay.2 c ob1 B h4 (hso _ _ h2) (by show(look M c).bind φ=some B;rw[h5];exact h7)
  | none=>
   rw[hx]at hob
   have l:look N o=none:=by
    cases l:look N o with
    | none=>rfl
    | some c=>obtain⟨ob',h'⟩:=hb2 o c l;rw[hx]at h';cases h'
   obtain⟨h1,ob',h2,_,_⟩:=QaB dead σ o ob hob
   rw[jO l,ZL h1];exact hr.stay.2 o ob' B hge h2 D
 refine⟨⟨ho.os.trans hr.os,ho.tape.trans hr.tape,ho.output.trans hr.output,Kj hr.size ho.size,λk h1 h2=>?_,λo1 o2 B1 B2 k e1 e2 b1 b2=>?_,λo B D=>?_,λo B k D hk=>?_,λo B k D hk hlt=>?_,
  ⟨λo B hge D=>?_,stay2⟩,hr.tmps,hr.defers.mono hI,λt u hu=>?_,λo ob hob=>?_⟩,λhv=>hv.sound hmB hA hownB ho.rep⟩
 ·rw[untouched k (Aj h1 hr.size) λs B D hh=>absurd ((hr.lt s B k D hh).2 h1) h2]
  exact hr.kept k h1 h2
 ·cases l1:look N o1 with
  | some c1=>
   rw[jN l1]at e1
   cases l2:look N o2 with
   | some c2=>
    rw[jN l2]at e2
    have:=ho.inj c1 c2 B1 B2 k e1 e2 b1 b2
    subst this
    exact hn.injN l1 l2
   | none=>
    rw[jO l2]at e2
    obtain⟨g1,g2⟩:=EQ e2
    obtain⟨c',s,B',h1,h2,h3⟩:=old e1 b1 (hr.lt o2 B2 k g2 b2).1
    have:=hr.inj s o2 B' B2 k h2 g2 h3 b2
    subst this
    rcases hn.keep h1 with h | ⟨_,h,_⟩
    ·rw[h]at g1;cases g1
    rw[h]at l2;cases l2
  | none=>
   rw[jO l1]at e1
   obtain⟨g1,g2⟩:=EQ e1
   cases l2:look N o2 with
   | some c2=>
    rw[jN l2]at e2
    obtain⟨c',s,B',h1,h2,h3⟩:=old e2 b2 (hr.lt o1 B1 k g2 b1).1
    have:=hr.inj s o1 B' B1 k h2 g2 h3 b1
    subst this
    rcases hn.keep h1 with h | ⟨_,h,_⟩
    ·rw[h]at g1;cases g1
    rw[h]at l1;cases l1
   | none=>
    rw[jO l2]at e2
    exact hr.inj o1 o2 B1 B2 k g2 (EQ e2).2 b1 b2
 ·cases l:look N o with
  | some c=>
   obtain⟨ob,hob⟩:=hb2 o c l
   exact⟨ob,by rw[St.after,ER,hob];rfl⟩
  | none=>
   rw[jO l]at D
   obtain⟨h1,h2⟩:=EQ D
   obtain⟨ob,hob⟩:=hr.dom o B h2
   obtain⟨ob',hob'⟩:=Qeo dead σ o ob h1 hob
   rw[St.after,ER]
   cases hx:look hsN o with
   | some y=>exact⟨y,rfl⟩
   | none=>exact⟨ob',hob'⟩
 ·cases l:look N o with
  | some c=>
   rw[jN l]at D
   refine⟨(ho.lt c B k D hk).1,λhlt=>?_⟩
   obtain⟨c',s,B',h1,h2,h3⟩:=old D hk (Aj hlt hr.size)
   exact(hr.lt s B' k h2 h3).2 hlt
  | none=>
   rw[jO l]at D
   have:=hr.lt o B k (EQ D).2 hk
   exact⟨Aj this.1 ho.size,this.2⟩
 ·cases l:look N o with
  | some c=>
   rw[jN l]at D
   rcases DH k w.heap.size with hlt' | hge
   ·obtain⟨c',s,B',h1,h2,h3⟩:=old D hk hlt'
    rcases hn.low l hlt with h | h
    ·have:=ho.new c B k D hk h;omega
    rcases h h1 with h | ⟨hc',⟨ob',hob'⟩,hN'⟩
    ·exact hr.new s B' k h2 h3 h
    have h4:=ho.stay.2 c' ob' B' hc' (hso _ _ hob') (by show(look M c').bind φ=some B';rw[h1];exact h2)
    have h5:=ho.inj c c' B B' k D h4 hk h3
    subst h5
    have:=hn.injN l hN'
    subst this
    exact hr.new _ B' k h2 h3 hlt
   exact Kj hr.size hge
  | none=>rw[jO l]at D;exact hr.new o B k (EQ D).2 hk hlt
 ·cases l:look N o with
  | some c=>
   rw[jN l]at D
   obtain⟨h1,h2⟩:=hn.stay l hge
   obtain⟨s,h3,h4⟩:=inv (ho.stay.1 c B h1 D)
   rw[h2]at h3;cases h3
   exact hr.stay.1 o B hge h4
  | none=>rw[jO l]at D;exact hr.stay.1 o B hge (EQ D).2
 ·obtain⟨u',hu',hk⟩:=QgL dead σ t u hu
  obtain⟨y,hy,hrep⟩:=hr.frame t u' hu'
  exact⟨y,hy,(hk _ _ _ _ hrep).mono keep hI⟩
 rw[St.after,ER]at hob
 cases hx:look hsN o with
 | some y=>
  rw[hx]at hob;cases hob
  obtain⟨c,ob1,h1,h2,h3⟩:=hb1 o _ hx
  rcases ho.heap c ob1 (hso _ _ h2)with⟨B,D,hrep⟩|⟨hnone,hz⟩
  ·exact .inl ⟨B,hmB c o B h1 D,h3.sound hmB hA hownB (λ_ _=>rfl) hrep⟩
  exact .inr ⟨by rw[jN h1];exact hnone,h3.nil hz⟩
 | none=>
  rw[hx]at hob
  have l:look N o=none:=by
   cases l:look N o with
   | none=>rfl
   | some c=>obtain⟨ob',h'⟩:=hb2 o c l;rw[hx]at h';cases h'
  obtain⟨h1,ob',h2,h3,h4⟩:=QaB dead σ o ob hob
  rcases hr.heap o ob' h2 with⟨B,D,hrep⟩|⟨hnone,hz⟩
  ·have hBd:Vc φ dead o=some B:=by rw[ZL h1];exact D
   refine .inl ⟨B,keep o B hBd,(h3 _ _ _ _ hrep).mono keep hI λk hk=>untouched k (hr.lt o B k D hk).1 λs B' hB' hk' c hc=>?_⟩
   have:=hr.inj s o B' B k hB' D hk' hk
   subst this
   rcases hn.keep hc with h | ⟨_,h,_⟩
   ·rw[h]at h1;cases h1
   rw[h]at l;cases l
  exact .inr ⟨by rw[jO l,ZL h1];exact hnone,h4 hz⟩
end
section
variable {P:Program}{C:XA}{σ:St}{o:Oper}
def YU.fn {f:FuncId}{h:Array Operand}{ts:Array TypeId}{vs:L_ V}(ho:o.op=.call { callee:=.value (.func f),args:=h,argTypes:=ts })(he:Vb P f=true)(ha:σ.opsV h.toList=some vs):
  YU P C o σ f vs:=by
 intro φ a w hr
 obtain⟨h1,h2⟩:=hr.opsV _ _ ha
 refine⟨h.toList.map a.eval,?_,by simpa using h1,λj x v D hv=>?_⟩
 ·have e2:h.map a.eval=(h.toList.map a.eval).toArray:=by apply Array.ext';simp
  simp only[execOp,ho,resolve,Xf,show a.eval (.func f)=.func (.func f) #[] #[]from rfl,Deferred.ofValue,Xx,Xl,invoke,Array.empty_append,Array.append_empty,e2]
  exact FW (P:=P) (w:=w) (f:=f) (args:=(h.toList.map a.eval).toArray) he
 simp only[Yb,XZ]at D
 obtain⟨y,hy,rfl⟩:=D
 exact h2 j y v hy hv
def YU.clo {f:FuncId}{x:Operand}{h:Array Operand}{ts:Array TypeId}{vs fs cs:L_ V}(ho:o.op=.call { callee:=.value x,args:=h,argTypes:=ts })(hx:σ.opd x=some (.clo (.func f) fs cs))
  (he:Vb P f=true) (ha:σ.opsV h.toList=some vs):YU P C o σ f (fs++(vs++cs)):=by
 intro φ a w hr
 obtain⟨h1,h2⟩:=hr.opsV _ _ ha
 obtain⟨xs,ys,hev,e1,e2,e3,e4⟩:=(hr.opd hx).clo_inv
 have h1':h.size=vs.length:=by simpa using h1
 refine⟨xs.toList++(h.toList.map a.eval++ys.toList),?_,by simp;omega,λj y v D hv=>?_⟩
 ·have e5:(xs++h.map a.eval)++ys=(xs.toList++(h.toList.map a.eval++ys.toList)).toArray:=by apply Array.ext';simp
  simp only[execOp,ho,resolve,Xf,hev,Deferred.ofValue,Xx,Xl,invoke,e5]
  exact FW (P:=P) (w:=w) (f:=f) (args:=_) he
 by_cases c1:j<fs.length
 ·rw[YL (by simpa using (by omega:j<xs.size))]at D
  rw[YL c1]at hv
  exact e3 j y v (by simpa using D) hv
 rw[Jx (by simp;omega)]at D
 rw[Jx (by omega)]at hv
 simp only[Array.length_toList]at D
 rw[e1]at D
 by_cases c2:j-fs.length<vs.length
 ·rw[YL (by simp;simp at h1;omega)]at D
  rw[YL c2]at hv
  simp only[Yb,XZ]at D
  obtain⟨z,hz,rfl⟩:=D
  exact h2 _ z v hz hv
 have hl:(h.toList.map a.eval).length=vs.length:=by simpa using h1
 rw[Jx (by omega),hl]at D
 rw[Jx (by omega)]at hv
 exact e4 _ y v (by simpa using D) hv
def UE (P:Program)(t:TypeId)(name:String):O_ (FuncId×Bool):=match P.info? t with
 | some i=>match i.methods.find? (·.name==name)with
  | some m=>bif m.path.isEmpty then m.func else none
  | none=>none
 | none=>none
def Qdn (P:Program)(t:TypeId):Bool:=match P.underlying t with
 | some (.pointer _)=>true
 | _=>false
def RD (P:Program)(t:TypeId):Bool:=match P.underlying t with
 | some (.pointer _)=>false
 | some _=>true
 | none=>false
def ZN {t:TypeId}{name:String}{f:FuncId}{p:Bool}{n:Nat}{v r:Value}{w:World}(h:UE P t name=some (f,p))
  (hr:(receiverAt t (.val v) p (some ((name.splitOn ".").getLastD name))).run P w=.ok r w):(method (n+1) t v name).run P w=.ok (f,r) w:=by
 unfold UE at h
 split at h
 ·rename_i i hi
  split at h
  ·rename_i m hm
   cases hp:m.path.isEmpty with
   | false=>rw[hp]at h;cases h
   | true=>
    rw[hp]at h
    simp only[XK]at h
    have hpl:m.path.toList=[]:=by simpa using hp
    simp only[method,typeInfo,Xf,Xx,run_program,Xl,hi,hm,hpl,follow,h,hp,if_true,hr]
  cases h
 cases h
def QfB {t:TypeId}{v:Value}{D:O_ String}{w:World}(h:Qdn P t=true):(receiverAt t (.val v) true D).run P w=.ok v w:=by
 unfold Qdn at h
 split at h
 ·rename_i e y
  simp[receiverAt,run_underlying y,Place.get]
 cases h
def QfC {t:TypeId}{v:Value}{wr:O_ String}{w:World}(h:RD P t=true):(receiverAt t (.val v) false wr).run P w=.ok v w:=by
 unfold RD at h
 split at h
 ·cases h
 ·rename_i d y D
  cases d<;>first | exact(y _ rfl).elim | simp[receiverAt,run_underlying D,Place.get]
 cases h
def Th (P:Program)(t e:TypeId):Bool:=match P.underlying t with
 | some (.pointer e')=>Nat.beq e' e
 | _=>false
def Qep {t e:TypeId}{p:Addr}{m:String}{w:World}{y:Value}(h:Th P t e=true)(hl:(loadVar e p).run P w=.ok y w):(receiverAt t (.val (.pointer (some p))) false (some m)).run P w=.ok y w:=by
 unfold Th at h
 split at h
 ·rename_i e' he
  have:=YE h
  subst this
  have hs:(Builtin.ssaWrapNilChk_ #[t] t #[.pointer (some p),strVal "",strVal m]).run P w=.ok (.pointer (some p)) w:=rfl
  simp[receiverAt,run_underlying he,Place.get,hs,asAddr,hl]
 cases h
def YU.meth {f:FuncId}{x:Operand}{name:String}{D:Array Operand}{ts:Array TypeId}{t:TypeId}{vs:L_ V}{u r:V}(ho:o.op=.call { callee:=.invoke x name,args:=D,argTypes:=ts })
  (hx:σ.opd x=some (.ifc t u)) (hm:(UE P t name=some (f,true)/\Qdn P t=true)\/(UE P t name=some (f,false)/\RD P t=true)) (he:Vb P f=true) (ha:σ.opsV D.toList=some vs):
  YU P C o σ f (u::vs):=by
 intro φ a w hr
 obtain⟨h1,h2⟩:=hr.opsV _ _ ha
 obtain⟨y,hev,hy⟩:=(hr.opd hx).ifc_inv
 refine⟨y::D.toList.map a.eval,?_,by simpa using h1,λj z v hz hv=>?_⟩
 ·have hmeth:(method (P.types.size+Made.depth) t y name).run P w=.ok (f,y) w:=by
   have hd:P.types.size+Made.depth=(P.types.size+(Made.depth-1))+1:=by have:Made.depth=(Made.depth-1)+1:=rfl;omega
   rw[hd]
   rcases hm with⟨h,hp⟩|⟨h,hp⟩
   ·exact ZN h (QfB hp)
   exact ZN h (QfC hp)
  have e2:#[y]++D.map a.eval=(y::D.toList.map a.eval).toArray:=by apply Array.ext';simp
  have e3:(#[Value.iface t y]++D.map a.eval)[0]? = some (.iface t y):=by rw[Qfw (by simp)];rfl
  have e4:(#[Value.iface t y]++D.map a.eval).extract 1 (#[Value.iface t y]++D.map a.eval).size=D.map a.eval:=by
   apply Array.ext';simp[UB]
  simp only[execOp,ho,resolve,Xf,hev,Xx,Xl,invoke,e3,e4,callMethod,run_program,hmeth,e2]
  exact FW (P:=P) (w:=w) (f:=f) (args:=_) he
 cases j with
 | zero=>simp at hz hv;subst hz;subst hv;exact hy
 | succ j=>
  simp only[Qcj,Yb,XZ]at hz hv
  obtain⟨y',hy',rfl⟩:=hz
  exact h2 j y' v hy' hv
def YU.methV {f:FuncId}{x:Operand}{name:String}{h:Array Operand}{ts:Array TypeId}{t e:TypeId}{vs cs:L_ V}{b off:Nat}{r:V}(ho:o.op=.call { callee:=.invoke x name,args:=h,argTypes:=ts })
  (hx:σ.opd x=some (.ifc t (.loc b 0 off))) (hm:UE P t name=some (f,false)) (hp:Th P t e=true) (hg:Ea P e=some false) (hb:look σ.hp b=some (.var cs)) (hr0:cs[off]? = some r) (he:Vb P f=true)
  (ha:σ.opsV h.toList=some vs):YU P C o σ f (r::vs):=by
 intro φ a w hr
 obtain⟨h1,h2⟩:=hr.opsV _ _ ha
 obtain⟨y,hev,hy⟩:=(hr.opd hx).ifc_inv
 obtain⟨B,hB,rfl⟩:=hy.loc_inv
 obtain⟨xs,E,e1,e2,e0,e3⟩:=hr.block hB hb
 have hlt:off<xs.size:=by rw[e2];exact(Xe.1 hr0).1
 have D:(loadVar e ⟨B.b,B.off+(0*B.z+off),none⟩).run P w=.ok xs[off] w:=by
  have:=CO (P:=P) (T:=e) (w:=w) (p:=⟨B.b,B.off+(0*B.z+off),none⟩) (x:=xs[off]) hg (by simp[World.cell?,e1,hlt,e0])
  simpa only[Instr.loadAt,Instr.sureAddr,Xf,Xx,Xl] using this
 refine⟨xs[off]::h.toList.map a.eval,?_,by simpa using h1,λj z v hz hv=>?_⟩
 ·have hmeth:(method (P.types.size+Made.depth) t (.pointer (some ⟨B.b,B.off+(0*B.z+off),none⟩)) name).run P w=.ok (f,xs[off]) w:=by
   have hd:P.types.size+Made.depth=(P.types.size+(Made.depth-1))+1:=by have:Made.depth=(Made.depth-1)+1:=rfl;omega
   rw[hd]
   exact ZN hm (Qep hp D)
  have e2:#[xs[off]]++h.map a.eval=(xs[off]::h.toList.map a.eval).toArray:=by apply Array.ext';simp
  have e3:(#[Value.iface t (.pointer (some ⟨B.b,B.off+(0*B.z+off),none⟩))]++h.map a.eval)[0]? = some (.iface t (.pointer (some ⟨B.b,B.off+(0*B.z+off),none⟩))):=by rw[Qfw (by simp)];rfl
  have e4:(#[Value.iface t (.pointer (some ⟨B.b,B.off+(0*B.z+off),none⟩))]++h.map a.eval).extract 1 (#[Value.iface t (.pointer (some ⟨B.b,B.off+(0*B.z+off),none⟩))]++h.map a.eval).size=h.map a.eval:=by
   apply Array.ext';simp[UB]
  simp only[execOp,ho,resolve,Xf,hev,Xx,Xl,invoke,e3,e4,callMethod,run_program,hmeth,e2]
  exact FW (P:=P) (w:=w) (f:=f) (args:=_) he
 cases j with
 | zero=>simp at hz hv;subst hz;subst hv;exact e3 off _ _ (GZ hlt) hr0
 | succ j=>
  simp only[Qcj,Yb,XZ]at hz hv
  obtain⟨y',hy',rfl⟩:=hz
  exact h2 j y' v hy' hv
def Gives (r:V)(outs:H_)(v:V)(h:H_):Prop:=v=r/\∀c ob,look outs c=some ob->look h c=some ob
def Qf.callM {f:FuncId}{d:Nat}{g:Bool}{M N:L_ (Nat×Nat)}{dead:L_ Nat}{hsC outs hsN:H_}{vs us:L_ V}{r r':V}(hE:YU P C o σ f vs)(hd:o.dst=some d)(hn:B_ d C)(hpg:C.pg P)
  (hnm:DK σ M N dead outs=true) (hnd:(M.map Prod.fst).Nodup)
  (hv:Vws σ.hp g false (Et M) (λa b=>look M b=some a) vs us) (y:Iy σ.hp g false (Et M) (λa b=>look M b=some a) σ.hp M hsC)
  (hc:QX P f us hsC (Gives r outs)) (D:Iy [] false g [] (λc b=>look N b=some c) outs N hsN) (hr':Vw [] false g [] (λc b=>look N b=some c) r r'):
  Qf P C o σ ((σ.after dead hsN).put d r'):=by
 intro a w ⟨φ,hr⟩ next Q hnext
 have hN:=Names.of hnm hnd
 refine⟨λ_ _=>trivial,?_⟩
 obtain⟨vals,hex,h1,h2⟩:=hE φ a w hr
 rw[VN hex,Oper.uponIn_enter]
 refine⟨(λh=>by cases h),VO ((hc _ _ w _ (Ins.of_vals hr h1 h2 hN.injM hN.param hv y) ((hr.glob hpg).mono λ_ h=>.inl h)).mono ?_)⟩
 rintro e w' ⟨x,v,hs',φ',rfl,⟨rfl,hso⟩,hout⟩
 obtain⟨h3,h4⟩:=hr.after hN hout hso (λc s h=>by
  obtain⟨ob',e1⟩:=y.get.2 c s h
  obtain⟨s',ob,e2,e3,_⟩:=y.get.1 c ob' e1
  rw[h]at e2;cases e2;exact⟨ob,e3⟩) D
 refine hnext _ _ ⟨Iz φ M N dead φ',?_⟩
 rw[hd]
 exact h3.put (XP hn) (h4 hr')
end
end Go.Vm
