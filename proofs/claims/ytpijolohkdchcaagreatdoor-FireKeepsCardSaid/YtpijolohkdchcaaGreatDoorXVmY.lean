/- A part of the proof; what it holds is told at each theorem. -/
import Derived.Test.YtpijolohkdchcaaGreatDoorXVmX
set_option linter.unusedVariables false
set_option linter.unusedSimpArgs false
set_option linter.unusedSectionVars false
set_option linter.deprecated false
namespace Go.Vm
open Go Go.RowKit
inductive Fr where
 | seq (y:Code)
 | blk (id:Nat)
 | cut (K:St→Prop)
inductive Pt where
 | c (c:Code)
 | o (ops:Array Oper) (l:List Oper)
 | x (e:Exit)
section
variable (P:Program)(C:Ctx)(Q:Exit→St→Prop)
def unw : List Fr→Exit→St→Prop
 | []=>Q
 | .seq y::k=>Qm5 (fun σ=>AWp P C y σ (unw k)) (unw k)
 | .blk id::k=>Qlw id (unw k)
 | .cut K::k=>Qm5 K (unw k)
def AK (pt:Pt)(ks:List Fr)(σ:St):Prop:=match pt with
 | .c c=>AWp P C c σ (unw P C Q ks)
 | .o ops l=>AL P C ops l σ (unw P C Q ks)
 | .x e=>∀a w,R C σ a w→up C (unw P C Q ks) e a w
end
section
variable {P:Program}{C:Ctx}{Q:Exit→St→Prop}{σ σ':St}{ks:List Fr}
theorem AK.weaken {pt:Pt}(h:∀a w,R C σ a w→R C σ' a w)(k:AK P C Q pt ks σ'):AK P C Q pt ks σ:=by
 cases pt with
 | c c=>exact fun a w hR=>k a w (h a w hR)
 | o ops l=>exact fun a w hR=>k a w (h a w hR)
 | x e=>exact fun a w hR=>k a w (h a w hR)
theorem AK.done {e:Exit}(h:Q e σ):AK P C Q (.x e) [] σ:=fun a w hR=>⟨σ,h,hR⟩
theorem AK.met {K:St→Prop}(h:K σ):AK P C Q (.x .normal) (.cut K::ks) σ:=fun a w hR=>⟨σ,h,hR⟩
theorem AK.seq {x y:Code}(h:AK P C Q (.c x) (.seq y::ks) σ):AK P C Q (.c (.seq x y)) ks σ:=AWp.seq h
theorem AK.block {id:Nat}{x:Code}(h:AK P C Q (.c x) (.blk id::ks) σ):AK P C Q (.c (.block id x)) ks σ:=AWp.block h
theorem AK.region {id:Nat}{ops:Array Oper}(h:AK P C Q (.o ops ops.toList) ks σ):AK P C Q (.c (.region id ops false)) ks σ:=AWp.region h
theorem AK.skip (h:AK P C Q (.x .normal) ks σ):AK P C Q (.c .skip) ks σ:=fun a w hR=>wpIn_skip (h a w hR)
theorem AK.label {l:Nat}(h:AK P C Q (.x .normal) ks σ):AK P C Q (.c (.label l)) ks σ:=fun a w hR=>wpIn_label (h a w hR)
theorem AK.exit {id:Nat}(h:AK P C Q (.x (.exit id)) ks σ):AK P C Q (.c (.exit id)) ks σ:=fun a w hR=>wpIn_exit (h a w hR)
theorem AK.ret (h:AK P C Q (.x .ret) ks σ):AK P C Q (.c .ret) ks σ:=fun a w hR=>wpIn_ret (h a w hR)
theorem AK.nil {ops:Array Oper}(h:AK P C Q (.x .normal) ks σ):AK P C Q (.o ops []) ks σ:=h
theorem AK.popSeq {y:Code}(h:AK P C Q (.c y) ks σ):AK P C Q (.x .normal) (.seq y::ks) σ:=fun a w hR=>⟨σ,h,hR⟩
theorem AK.popBlk {id:Nat}(h:AK P C Q (.x .normal) ks σ):AK P C Q (.x .normal) (.blk id::ks) σ:=h
theorem AK.exSeq {y:Code}{i:Nat}(h:AK P C Q (.x (.exit i)) ks σ):AK P C Q (.x (.exit i)) (.seq y::ks) σ:=h
theorem AK.exCut {K:St→Prop}{i:Nat}(h:AK P C Q (.x (.exit i)) ks σ):AK P C Q (.x (.exit i)) (.cut K::ks) σ:=h
theorem AK.exBlk {i j:Nat}(e:Nat.beq i j=true)(h:AK P C Q (.x .normal) ks σ):AK P C Q (.x (.exit i)) (.blk j::ks) σ:=fun a w hR=>
 let ⟨σ',h1,h2⟩:=h a w hR;⟨σ',inBE e h1,h2⟩
theorem AK.exBlk' {i j:Nat}(e:Nat.beq i j=false)(h:AK P C Q (.x (.exit i)) ks σ):AK P C Q (.x (.exit i)) (.blk j::ks) σ:=fun a w hR=>
 let ⟨σ',h1,h2⟩:=h a w hR;⟨σ',inBX e h1,h2⟩
theorem AK.retPop {f:Fr}(h:AK P C Q (.x .ret) ks σ):AK P C Q (.x .ret) (f::ks) σ:=by
 cases f<;>exact h
theorem AK.meet {x y:Code}(K:St→Prop)(hx:AK P C Q (.c x) (.cut K::ks) σ)(hy:∀σ',K σ'→AK P C Q (.c y) ks σ'):AK P C Q (.c (.seq x y)) ks σ:=AWp.seqK K hx hy
theorem AK.meetX {c:Code}(K:St→Prop)(hx:AK P C Q (.c c) (.cut K::ks) σ)(hy:∀σ',K σ'→AK P C Q (.x .normal) ks σ'):AK P C Q (.c c) ks σ:=by
 intro a w hR
 refine wpIn_mono (hx a w hR) ?_
 rintro e a w ⟨σ',h1,h2⟩
 cases e<;>first | exact hy σ' h1 a w h2 | exact⟨σ',h1,h2⟩
def rndQ {τ ρ:Type}(E:τ→St→Prop)(Post:ρ→Exit→St→Prop)(o:τ⊕ρ):Exit→St→Prop:=
 Qm5 (fun σ'=>∃s',o=.inl s'∧E s' σ') (fun e σ'=>∃r,o=.inr r∧Post r e σ')
theorem rndN {τ ρ:Type}{E:τ→St→Prop}{Post:ρ→Exit→St→Prop}{o:τ⊕ρ}{s':τ}(h:o=.inl s')(he:E s' σ):AK P C (rndQ E Post o) (.x .normal) [] σ:=AK.done ⟨s',h,he⟩
theorem rndX {τ ρ:Type}{E:τ→St→Prop}{Post:ρ→Exit→St→Prop}{o:τ⊕ρ}{r:ρ}{i:Nat}(h:o=.inr r)(he:Post r (.exit i) σ):AK P C (rndQ E Post o) (.x (.exit i)) [] σ:=AK.done ⟨r,h,he⟩
theorem rndR {τ ρ:Type}{E:τ→St→Prop}{Post:ρ→Exit→St→Prop}{o:τ⊕ρ}{r:ρ}(h:o=.inr r)(he:Post r .ret σ):AK P C (rndQ E Post o) (.x .ret) [] σ:=AK.done ⟨r,h,he⟩
theorem AK.loop {τ ρ:Type}{body:τ→Option (τ⊕ρ)}{c:Code}(E:τ→St→Prop)(Post:ρ→Exit→St→Prop){s0:τ}{r:ρ}(hr:QE body s0=some r)(h0:E s0 σ)
  (round:∀s o σ,E s σ→body s=some o→AK P C (rndQ E Post o) (.c c) [] σ) (hQ:∀e σ',Post r e σ'→AK P C Q (.x e) ks σ'):AK P C Q (.c (.loop c)) ks σ:=by
 intro a w hR
 refine wpIn_mono (AWp.loop (Q:=fun e σ'=>Post r e σ') E Post round (Qmh.1 hr) h0 (fun e σ' h=>h) a w hR) ?_
 rintro e a' w' ⟨σ',hp,hR'⟩
 exact hQ e σ' hp a' w' hR'
end
def V.isUnd : V→Bool
 | .lit (.tuple a)=>a.isEmpty
 | _=>false
theorem V.isUnd_eq {v:V}(h:v.isUnd=true):v=.lit undef:=by
 unfold V.isUnd at h
 split at h
 ·rename_i a;rw [Array.isEmpty_iff]at h;subst h;rfl
 ·cases h
inductive Ent where
 | fn
 | clo
 | me (f:Nat)
 | mv (f e:Nat)
def bkM : List (Nat×Nat)→Nat→Option Nat
 | [],_=>none
 | (b,a')::r,a=>bif Nat.beq a' a then some b else bkM r a
def trC (bk:Nat→Option Nat):V→Option V
 | .own a n=>match bk a with
  | some b=>some (.own b n)
  | none=>none
 | .loc a i d=>match bk a with
  | some b=>some (.loc b i d)
  | none=>none
 | .map a=>match bk a with
  | some b=>some (.map b)
  | none=>none
 | .ifc t x=>match trC bk x with
  | some y=>some (.ifc t y)
  | none=>none
 | v=>bif v.datA then some v else none
def trL (bk:Nat→Option Nat):List V→Option (List V)
 | []=>some []
 | v::vs=>match trC bk v with
  | some u=>match trL bk vs with
   | some us=>some (u::us)
   | none=>none
  | none=>none
def trV (bk:Nat→Option Nat):V→Option V
 | .agg cs=>bif (V.agg cs).datA then some (.agg cs)else match trL bk cs with
  | some us=>some (.agg us)
  | none=>none
 | .tup cs=>bif (V.tup cs).datA then some (.tup cs)else match trL bk cs with
  | some us=>some (.tup us)
  | none=>none
 | .clo fn fs cs=>match trL bk fs with
  | some us=>match trL bk cs with
   | some ds=>some (.clo fn us ds)
   | none=>none
  | none=>none
 | v=>trC bk v
def trVs (bk:Nat→Option Nat):List V→Option (List V)
 | []=>some []
 | v::vs=>match trV bk v with
  | some u=>match trVs bk vs with
   | some us=>some (u::us)
   | none=>none
  | none=>none
def trO (bk:Nat→Option Nat):Ob→Option Ob
 | .var cs=>match trVs bk cs with
  | some us=>some (.var us)
  | none=>none
 | .lp l K cs q=>match trVs bk cs with
  | some us=>some (.lp l K us q)
  | none=>none
 | .arr z rs=>some (.arr z rs)
 | .map l=>some (.map l)
 | .grp z l lk=>some (.grp z l lk)
 | _=>none
def argM (bk:Nat→Option Nat):Mode→V→Option V
 | .n z,.lit (.slice none 0 0)=>some (.sl z [])
 | .d,v=>trV bk v
 | _,_=>none
def QjE (bk:Nat→Option Nat):List Mode→List V→Option (List V)
 | [],[]=>some []
 | m::ms,v::vs=>match argM bk m v with
  | some u=>match QjE bk ms vs with
   | some us=>some (u::us)
   | none=>none
  | none=>none
 | _,_=>none
def obsM (bk:Nat→Option Nat)(src:Nat→Option Ob):List (Nat×Nat)→Option (List (Nat×Ob))
 | []=>some []
 | (d,s)::r=>match src s with
  | some ob=>match trO bk ob with
   | some ob'=>match obsM bk src r with
    | some l=>some ((d,ob')::l)
    | none=>none
   | none=>none
  | none=>none
def entV (P:Program)(T:Tab)(σ:St)(φ:Prop)(c:Call):Ent→Option (Nat×List V×Prop)
 | .fn=>match c.callee with
  | .value (.func f)=>bif memB T.en f then match evs σ.opd c.args.toList with
   | some vs=>some (f,vs,φ)
   | none=>none
   else none
  | _=>none
 | .clo=>match c.callee with
  | .value x=>match σ.opd x with
   | some (.clo (.func f) fs cs)=>bif memB T.en f then match evs σ.opd c.args.toList with
    | some vs=>some (f,fs++(vs++cs),φ)
    | none=>none
    else none
   | _=>none
  | _=>none
 | .me f=>match c.callee with
  | .invoke x name=>match σ.opd x with
   | some (.ifc t u)=>bif memB T.en f then match evs σ.opd c.args.toList with
    | some vs=>some (f,u::vs,φ∧((QjC P t name=some (f,true)∧ptrB P t=true)∨(QjC P t name=some (f,false)∧Qn9 P t=true)))
    | none=>none
    else none
   | _=>none
  | _=>none
 | .mv f e=>match c.callee with
  | .invoke x name=>match σ.opd x with
   | some (.ifc t (.loc b 0 0))=>match look σ.hp b with
    | some (.var [r])=>bif memB T.en f then match evs σ.opd c.args.toList with
     | some vs=>some (f,r::vs,φ∧(QjC P t name=some (f,false)∧Qqh P t e=true∧aggB P e=some false))
     | none=>none
     else none
    | _=>none
   | _=>none
  | _=>none
def cmV (P:Program)(σ:St)(φ:Prop)(d f:Nat)(vs:List V)(M N:List (Nat×Nat))(dead:List Nat)(ms:List Mode)(outs:List (Nat×Ob))(r:V):Option (St×Prop):=
 bif QcR σ M N dead outs&&Qgk (M.map Prod.fst)&&Qgk (N.map Prod.fst)then match QjE (bkM M) ms vs with
  | some us=>match obsM (bkM M) (look σ.hp) M with
   | some hsC=>match obsM (bkM N) (look outs) N with
    | some hsN=>match trV (bkM N) r with
     | some r'=>some ((σ.after dead hsN).put d r',φ∧Qc P f us hsC (Gives r outs))
     | none=>none
    | none=>none
   | none=>none
  | none=>none
 else none
inductive Dir where
 | n (k:Nat)
 | o (h:Hint)
 | v (h:Hint) (ms:List (Option Nat)) (v:V)
 | br (b:Bool)
 | st (r:List V) (rs:List (List V))
 | app (rs:List (List V)) (m:Nat)
 | x (g:St→St)
 | say (t:Nat) (v:V)
 | sayO (b:Nat) (ob:Ob)
 | to (fr:List (Nat×V)) (hp:List (Nat×Ob))
 | freeze (t:Nat) (us:List (List V))
 | adopt (t b z:Nat)
 | denil (t:Nat) (ms:List (Option Nat))
 | denilO (b:Nat) (ms:List (Option Nat))
 | ren (o o':Nat)
 | kill (b:Nat)
 | keep (ts os:List Nat)
 | frz (b:Nat) (us:List (List V)) (ts os:List Nat)
 | adoptO (p i b z:Nat)
 | cm (en:Ent) (M N:List (Nat×Nat)) (dead:List Nat) (ms:List Mode) (outs:List (Nat×Ob)) (r:V)
structure Cfg where
 pt:Pt
 ks:List Fr
 σ:St
 φ:Prop
def addφ (φ:Prop):Option Prop→Prop
 | none=>φ
 | some p=>φ∧p
def ctl : Pt→List Fr→St→Option (Pt×List Fr)
 | .c (.seq x y),ks,_=>some (.c x,.seq y::ks)
 | .c (.block id x),ks,_=>some (.c x,.blk id::ks)
 | .c (.region _ ops false),ks,_=>some (.o ops ops.toList,ks)
 | .c .skip,ks,_=>some (.x .normal,ks)
 | .c (.label _),ks,_=>some (.x .normal,ks)
 | .c (.exit i),ks,_=>some (.x (.exit i),ks)
 | .c .ret,ks,_=>some (.x .ret,ks)
 | .c (.cond c x y),ks,σ=>match σ.opd c with
  | some (.b true)=>some (.c x,ks)
  | some (.b false)=>some (.c y,ks)
  | _=>none
 | .o _ [],ks,_=>some (.x .normal,ks)
 | .x .normal,.seq y::ks,_=>some (.c y,ks)
 | .x .normal,.blk _::ks,_=>some (.x .normal,ks)
 | .x (.exit i),.seq _::ks,_=>some (.x (.exit i),ks)
 | .x (.exit i),.cut _::ks,_=>some (.x (.exit i),ks)
 | .x (.exit i),.blk j::ks,_=>bif Nat.beq i j then some (.x .normal,ks)else some (.x (.exit i),ks)
 | .x .ret,_::ks,_=>some (.x .ret,ks)
 | _,_,_=>none
def Qen (ops:Array Oper)(o:Oper)(f:Nat→Option V):Option Bool:=match o.guard with
 | none=>some true
 | some (j,t)=>match ops[j]? with
  | some oj=>match oj.dst with
   | some d=>match f d with
    | some (.b true)=>some t
    | some (.b false)=>some (!t)
    | some v=>bif v.isUnd then some false else none
    | none=>none
   | none=>none
  | none=>none
def QtD (T:Tab)(Tx:TypeId)(σ:St)(φ:Prop):V→V→Option (St×Prop)
 | .loc b i off,v=>match look σ.hp b with
  | some (.var cs)=>match i with
   | 0=>match look T.sz Tx with
    | some n=>bif v.isV&&Nat.beq v.cells.length n&&v.cells.all V.one&&Nat.ble (off+n) cs.length then some (σ.set b (.var (QbG cs off v.cells)),φ)else none
    | none=>none
   | _=>none
  | _=>none
 | _,_=>none
def storeA (T:Tab)(Tx:TypeId)(σ:St)(φ:Prop)(r:List V)(rs':List (List V)):V→V→Option (St×Prop)
 | .loc b i off,v=>match look σ.hp b with
  | some (.arr z rs)=>match look T.sz Tx with
    | some n=>bif v.isV&&Nat.beq v.cells.length n&&v.cells.all V.one&&v.cells.all V.dat&&Nat.ble (off+n) z then
     some (σ.set b (.arr z rs'),φ∧(rs[i]? = some r∧rs.set i (QbG r off v.cells)=rs'))else none
    | none=>none
  | _=>none
 | _,_=>none
def op1 (P:Program)(C:Ctx)(T:Tab)(n:Nat)(h:Hint)(sv:Option (List (Option Nat)×V))(o:Oper)(σ:St)(φ:Prop):Option (St×Prop):=match o.dst with
 | some d=>bif Nat.ble (d+1) n then match ev1 P C T h o d σ.opd (look σ.hp)with
  | some ⟨v,none,q⟩=>match sv with
   | none=>some (σ.put d v,addφ φ q)
   | some (ms,u)=>some (σ.put d u,addφ φ q∧v.denil ms=u)
  | some ⟨v,some ob,q⟩=>match look σ.hp d with
   | none=>match sv with
    | none=>some ((σ.set d ob).put d v,addφ φ q)
    | some (ms,u)=>some ((σ.set d ob).put d u,addφ φ q∧v.denil ms=u)
   | some _=>none
  | none=>none
  else none
 | none=>match o.op with
  | .store Tx x y=>match σ.opd x with
   | some p=>match σ.opd y with
    | some v=>QtD T Tx σ φ p v
    | none=>none
   | none=>none
  | _=>none
def appV (T:Tab)(n:Nat)(σ:St)(φ:Prop)(rs':List (List V))(m:Nat)(d Tx Ty:Nat):V→V→Option (St×Prop)
 | .own b k,y=>match look σ.hp b with
  | some (.arr z rs)=>match look T.es Tx with
   | some (e,z',by_)=>match look T.zv e with
    | some zs=>bif (look T.es Ty).isSome&&Nat.ble (d+1) n&&!(Nat.ble 200000 b)&&Nat.beq z z'&&Nat.beq zs.length z&&!(Nat.beq z 0)&&Nat.ble by_ 32768 then match y with
     | .sl z'' us=>bif Nat.beq z z'' then some (σ.app b z d m rs',φ∧(rs.length=k∧decide (k+us.length≤4294967296)=true∧rs++us=rs'∧k+us.length=m))else none
     | .own b' k'=>match look σ.hp b' with
      | some (.arr z'' us)=>bif Nat.beq z z'' then some (σ.app b z d m rs',φ∧(rs.length=k∧decide (k+k'≤4294967296)=true∧us.length=k'∧rs++us=rs'∧k+k'=m))else none
      | _=>none
     | .lit (.slice none 0 0)=>some (σ.app b z d k rs,φ∧(rs.length=k∧decide (k≤4294967296)=true))
     | _=>none
     else none
    | none=>none
   | none=>none
  | _=>none
 | _,_=>none
def QgT {α:Type}(l:List (Nat×α)):List Nat→Option (List (Nat×α))
 | []=>some []
 | t::ts=>match look l t with
  | some v=>match QgT l ts with
   | some r=>some ((t,v)::r)
   | none=>none
  | none=>none
def V.frzC (b z:Nat)(us:List (List V)):V→V
 | .own o k=>bif Nat.beq o b then .sl z us else .own o k
 | v=>v
def V.frz (b z:Nat)(us:List (List V)):V→V
 | .agg cs=>.agg (cs.map (V.frzC b z us))
 | v=>v.frzC b z us
def frzP (b:Nat)(rs us:List (List V)):V→Prop
 | .own o k=>bif Nat.beq o b then k≤rs.length∧rs.take k=us else True
 | _=>True
def Qnf (b:Nat)(rs us:List (List V)):List V→Prop
 | []=>True
 | .own o k::r=>frzP b rs us (.own o k)∧Qnf b rs us r
 | _::r=>Qnf b rs us r
def frzQ (b:Nat)(rs us:List (List V)):V→Prop
 | .agg cs=>Qnf b rs us cs
 | v=>frzP b rs us v
def V.isOwn (b:Nat):V→Bool
 | .own o _=>Nat.beq o b
 | _=>false
def V.frzB (b:Nat):V→Bool
 | .agg cs=>cs.all fun c=>c.freeC b||c.isOwn b
 | v=>v.freeC b||v.isOwn b
def frzT (b z:Nat)(rs us:List (List V))(σ0:St):List Nat→St→Prop→Option (St×Prop)
 | [],σ,φ=>some (σ,φ)
 | t::ts,σ,φ=>match look σ0.fr t with
  | some v=>bif v.frzB b then frzT b z rs us σ0 ts (σ.put t (v.frz b z us)) (φ∧frzQ b rs us v)else none
  | none=>none
def frzO (b z:Nat)(rs us:List (List V))(σ0:St):List Nat→St→Prop→Option (St×Prop)
 | [],σ,φ=>some (σ,φ)
 | p::ps,σ,φ=>match look σ0.hp p with
  | some (.var cs)=>bif !(Nat.beq p b)&&cs.all (fun c=>c.freeC b||c.isOwn b)&&(look σ.hp p).isSome then frzO b z rs us σ0 ps (σ.set p (.var (cs.map (V.frzC b z us)))) (φ∧Qnf b rs us cs)else none
  | _=>none
def dir1 (P:Program)(C:Ctx)(T:Tab)(n:Nat):Dir→Pt→List Fr→St→Prop→Option Cfg
 | .o h,.o ops (o::l),ks,σ,φ=>match Qen ops o (look σ.fr)with
  | some true=>match op1 P C T n h none o σ φ with
   | some (σ',φ')=>some ⟨.o ops l,ks,σ',φ'⟩
   | none=>none
  | _=>none
 | .v h ms u,.o ops (o::l),ks,σ,φ=>match Qen ops o (look σ.fr)with
  | some true=>match op1 P C T n h (some (ms,u)) o σ φ with
   | some (σ',φ')=>some ⟨.o ops l,ks,σ',φ'⟩
   | none=>none
  | _=>none
 | .st r rs,.o ops (o::l),ks,σ,φ=>match Qen ops o (look σ.fr)with
  | some true=>match o.dst with
   | none=>match o.op with
    | .store Tx x y=>match σ.opd x with
     | some p=>match σ.opd y with
      | some v=>match storeA T Tx σ φ r rs p v with
       | some (σ',φ')=>some ⟨.o ops l,ks,σ',φ'⟩
       | none=>none
      | none=>none
     | none=>none
    | _=>none
   | some _=>none
  | _=>none
 | .app rs m,.o ops (o::l),ks,σ,φ=>match Qen ops o (look σ.fr)with
  | some true=>match o.dst with
   | some d=>match o.op with
    | .call c=>match c.callee with
     | .builtin .append=>match c.args.toList with
      | [x,y]=>match c.argTypes.toList with
       | [Tx,Ty]=>match σ.opd x with
        | some p=>match σ.opd y with
         | some v=>match appV T n σ φ rs m d Tx Ty p v with
          | some (σ',φ')=>some ⟨.o ops l,ks,σ',φ'⟩
          | none=>none
         | none=>none
        | none=>none
       | _=>none
      | _=>none
     | _=>none
    | _=>none
   | none=>none
  | _=>none
 | .x g,.o ops (o::l),ks,σ,φ=>match Qen ops o (look σ.fr)with
  | some true=>some ⟨.o ops l,ks,g σ,φ∧Stp P C o σ (g σ)⟩
  | _=>none
 | .cm en M N dead ms outs r,.o ops (o::l),ks,σ,φ=>match Qen ops o (look σ.fr)with
  | some true=>match o.dst with
   | some d=>bif Nat.ble (d+1) n then match o.op with
    | .call c=>match entV P T σ φ c en with
     | some (f,vs,φ1)=>match cmV P σ φ1 d f vs M N dead ms outs r with
      | some (σ',φ')=>some ⟨.o ops l,ks,σ',φ'⟩
      | none=>none
     | none=>none
    | _=>none
    else none
   | none=>none
  | _=>none
 | .br b,.c (.cond c x y),ks,σ,φ=>match σ.opd c with
  | some (.b t)=>match b with
   | true=>some ⟨.c x,ks,σ,φ∧t=true⟩
   | false=>some ⟨.c y,ks,σ,φ∧t=false⟩
  | _=>none
 | .say t v,pt,ks,σ,φ=>match look σ.fr t with
  | some u=>some ⟨pt,ks,σ.put t v,φ∧u=v⟩
  | none=>none
 | .sayO b ob,pt,ks,σ,φ=>match look σ.hp b with
  | some u=>some ⟨pt,ks,σ.set b ob,φ∧u=ob⟩
  | none=>none
 | .to fr hp,pt,ks,σ,φ=>some ⟨pt,ks,⟨fr,hp⟩,φ∧(QhD σ.fr fr∧QhE σ.hp hp∧St.closed ⟨fr,hp⟩=true)⟩
 | .freeze t us,pt,ks,σ,φ=>match look σ.fr t with
  | some (.own b k)=>match look σ.hp b with
   | some (.arr z rs)=>bif !(Nat.ble 100000 b)then some ⟨pt,ks,(σ.kill b).put t (.sl z us),φ∧(k≤rs.length∧rs.take k=us)⟩else none
   | _=>none
  | _=>none
 | .adopt t b z,pt,ks,σ,φ=>match look σ.fr t with
  | some (.lit (.slice none 0 0))=>match look σ.hp b with
   | none=>bif Nat.ble 200000 b then none else some ⟨pt,ks,(σ.set b (.arr z [])).put t (.own b 0),φ⟩
   | some _=>none
  | _=>none
 | .denil t ms,pt,ks,σ,φ=>match look σ.fr t with
  | some v=>some ⟨pt,ks,σ.put t (v.denil ms),φ⟩
  | none=>none
 | .denilO b ms,pt,ks,σ,φ=>match look σ.hp b with
  | some (.var cs)=>some ⟨pt,ks,σ.set b (.var (denL ms cs)),φ⟩
  | _=>none
 | .ren o o',pt,ks,σ,φ=>bif !(Nat.ble 100000 o)&&!(Nat.ble 100000 o')&&(look σ.hp o').isNone then some ⟨pt,ks,σ.ren o o',φ⟩else none
 | .kill b,pt,ks,σ,φ=>some ⟨pt,ks,σ.kill b,φ⟩
 | .frz b us ts os,pt,ks,σ,φ=>match look σ.hp b with
  | some (.arr z rs)=>bif !(Nat.ble 100000 b)then match frzT b z rs us σ ts (σ.kill b) True with
   | some (σ1,φ1)=>match frzO b z rs us σ os σ1 φ1 with
    | some (σ2,φ2)=>some ⟨pt,ks,σ2,φ∧φ2⟩
    | none=>none
   | none=>none
   else none
  | _=>none
 | .adoptO p i b z,pt,ks,σ,φ=>match look σ.hp p with
  | some (.var cs)=>match cs[i]? with
   | some (.lit (.slice none 0 0))=>match look σ.hp b with
    | none=>bif Nat.beq p b||Nat.ble 200000 b then none else some ⟨pt,ks,(σ.set b (.arr z [])).set p (.var (cs.set i (.own b 0))),φ⟩
    | some _=>none
   | _=>none
  | _=>none
 | .keep ts os,pt,ks,σ,φ=>match QgT σ.fr ts with
  | some fr=>match QgT σ.hp os with
   | some hp=>bif St.closed ⟨fr,hp⟩then some ⟨pt,ks,⟨fr,hp⟩,φ⟩else none
   | none=>none
  | none=>none
 | _,_,_,_,_=>none
def plain (P:Program)(C:Ctx)(T:Tab)(n:Nat):Nat→Pt→List Fr→St→Prop→Option Cfg
 | 0,pt,ks,σ,φ=>some ⟨pt,ks,σ,φ⟩
 | k+1,.o ops (o::l),ks,σ,φ=>match Qen ops o (look σ.fr)with
  | some true=>match op1 P C T n .no none o σ φ with
   | some (σ',φ')=>plain P C T n k (.o ops l) ks σ' φ'
   | none=>none
  | some false=>match o.dst with
   | some d=>bif Nat.ble (d+1) n then plain P C T n k (.o ops l) ks (σ.put d (.lit undef)) φ else none
   | none=>plain P C T n k (.o ops l) ks σ φ
  | none=>none
 | k+1,pt,ks,σ,φ=>match ctl pt ks σ with
  | some (pt',ks')=>plain P C T n k pt' ks' σ φ
  | none=>none
def go (P:Program)(C:Ctx)(T:Tab)(n:Nat):List Dir→Pt→List Fr→St→Prop→Option Cfg
 | [],pt,ks,σ,φ=>some ⟨pt,ks,σ,φ⟩
 | .n k::ds,pt,ks,σ,φ=>match plain P C T n k pt ks σ φ with
  | some ⟨pt',ks',σ',φ'⟩=>go P C T n ds pt' ks' σ' φ'
  | none=>none
 | d::ds,pt,ks,σ,φ=>match dir1 P C T n d pt ks σ φ with
  | some ⟨pt',ks',σ',φ'⟩=>go P C T n ds pt' ks' σ' φ'
  | none=>none
end Go.Vm
