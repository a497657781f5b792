/- A part of the proof; what it holds is told at each theorem. -/
import Derived.Test.YtpijolohkdchcaaGreatDoorXVmE
set_option linter.unusedVariables false
set_option linter.unusedSimpArgs false
set_option linter.unusedSectionVars false
set_option linter.deprecated false
namespace Go.Vm
open Go Go.RowKit
section
variable {P:Program}{C:Ctx}{σ:St}{o:Oper}
theorem QgN {T:Nat}{zs:List V}(h:Qap P T=some zs):∃i z,P.info? T=some i∧i.zero=some z∧z.cells.toList.map Qfm=zs:=by
 unfold Qap at h
 split at h
 ·rename_i i hi
  split at h
  ·rename_i z hz;cases h;exact⟨i,z,hi,hz,rfl⟩
  ·cases h
 ·cases h
theorem Qrz (z:Array Value)(n k:Nat)(h:k<n):(madeCells z n)[k]? = some (z[k % z.size]!):=by
 simp [madeCells,h]
theorem Stp.make {T d e z by_:Nat}{x y:Operand}{zs:List V}{k k':IntKind}{l c:Int}(ho:o.op=.makeSlice T x y)(hd:o.dst=some d)(hn:Nat.ble (d+1) C.n=true)
  (hx:σ.opd x=some (.i k l)) (hy:σ.opd y=some (.i k' c)) (hT:Qax P T=some (e,z,by_)) (hz:Qap P e=some zs) (hzl:zs.length=z) (hz0:z≠0) (hone:zs.all V.one=true)
  (h0:0≤l) (hlc:l≤c) (hby:by_≤32768) (hc:c≤4294967296) (hf:look σ.hp d=none):
  Stp P C o σ ((σ.set d (.arr z (List.replicate l.toNat zs))).put d (.own d l.toNat)):=by
 refine Stp.val fun φ a w hr=>?_
 obtain⟨hu,i,hi,hiz,hib⟩:=QbW hT
 obtain⟨i',zv,hi',hz',hmap⟩:=QgN hz
 rw [hi]at hi';cases hi'
 have hzs:zv.cells.size=z:=by rw [←hzl,←hmap];simp
 have hbytes:(i.bytes:Int)*c≤281474976710656:=by
  rw [hib]
  have h1:(by_:Int)*c≤32768*c:=Int.mul_le_mul_of_nonneg_right (by omega) (by omega)
  omega
 have hrun:=run_make (P:=P) w T e i zv hu hi hz' k k' l c h0 hlc hbytes (by omega)
 rw [hiz]at hrun
 have hN:=hr.none_of_look hf
 refine⟨.slice (some ⟨w.heap.size,0,none⟩) l.toNat c.toNat,w.alloc (.cells (madeCells zv.cells (c.toNat*z)) e),ext φ d ⟨w.heap.size,c.toNat,z,[],0⟩,?_,?_⟩
 ·simp only [execOp,ho,(hr.opd hx).i_inv,(hr.opd hy).i_inv,Sem.run_bind,hrun,Result.andThen_ok,Sem.run_pure]
 ·have hle:l.toNat≤c.toNat:=by omega
  have hnew:=hr.alloc (cap:=c.toNat) (z:=z) hf (C.slot hn) (ob:=.arr z (List.replicate l.toNat zs)) (obj:=.cells (madeCells zv.cells (c.toNat*z)) e)
   (QaC.mk0 rfl rfl (by simpa using hle) (fun r hr'=>by
    obtain⟨_,rfl⟩:=List.mem_replicate.1 hr'
    exact⟨hzl,fun v hv=>by rw [List.all_eq_true]at hone;exact hone v hv⟩) _ e (heap_alloc_new w _) (size_madeCells _ _) fun m r hm j v hv=>by
    obtain⟨hm1,rfl⟩:m<l.toNat∧zs=r:=by
     have:=List.getElem?_eq_some_iff.1 hm
     obtain⟨h1,h2⟩:=this
     simp at h1 h2
     exact⟨by omega,h2⟩
    have hj:j<z:=by rw [←hzl];exact(List.getElem?_eq_some_iff.1 hv).1
    have hlt:m*z+j<c.toNat*z:=by
     have:(m+1)*z≤c.toNat*z:=Nat.mul_le_mul_right _ (by omega)
     rw [Nat.add_mul]at this;omega
    refine⟨_,Qrz _ _ _ hlt,?_⟩
    have hmod:(m*z+j) % zv.cells.size=j:=by rw [hzs,Nat.mul_comm,Nat.mul_add_mod,Nat.mod_eq_of_lt hj]
    rw [hmod]
    have hjs:j<zv.cells.size:=by omega
    have:v=Qfm zv.cells[j]:=by
     rw [←hmap]at hv
     simp [hjs]at hv
     exact hv.symm
    subst this
    rw [getElem!_pos zv.cells j hjs]
    exact Dat.const _)
  rw [hd]
  refine hnew.put (QS hn) ?_
  exact .own d l.toNat ⟨w.heap.size,c.toNat,z,[],0⟩ (QM _ _ _) hle
def Qel (place:Nat→Option (Nat×Nat))(cs:List V):List (Nat×V)→Option (List V)
 | []=>some cs
 | (i,v)::rest=>match place i with
  | none=>none
  | some (off,n)=>bif Nat.beq v.cells.length n&&Nat.ble (off+n) cs.length then Qel place (QbG cs off v.cells) rest else none
def V.isV : V→Bool
 | .agg _=>true
 | v=>v.one
theorem V.isV_or {v:V}(h:v.isV=true):v.one=true∨∃cs,v=.agg cs:=by
 cases v<;>first | exact .inl h | exact .inr ⟨_,rfl⟩
theorem Qty (off:Nat):∀(vs:List Value) (k:Nat) (cs:Array Value),off+k+vs.length≤cs.size→
  ((vs.zipIdx k).foldl (fun (cs:Array Value) (p:Value×Nat)=>cs.setIfInBounds (off+p.2) p.1) cs).toList=cs.toList.take (off+k)++vs++cs.toList.drop (off+k+vs.length):=by
 intro vs
 induction vs with
 | nil=>intro k cs _;simp
 | cons v vs ih=>
  intro k cs h
  simp only [List.length_cons]at h
  rw [List.zipIdx_cons,List.foldl_cons,ih (k+1) _ (by simp;omega)]
  have h1:off+k<cs.toList.length:=by simp;omega
  simp only [Array.toList_setIfInBounds]
  rw [show off+(k+1)=off+k+1 by omega]
  rw [List.take_set,List.drop_set]
  have h2:off+k<(cs.toList.take (off+k+1)).length:=by simp;omega
  rw [if_pos (by omega)]
  rw [List.take_succ_eq_append_getElem h1,List.set_append_right _ _ (by simp;omega),show off+k-(List.take (off+k) cs.toList).length=0 by simp;omega]
  simp only [List.set_cons_zero,List.append_assoc,List.cons_append,List.nil_append,List.length_cons]
  congr 3
  congr 1
  omega
theorem Qug {φ:Nat→Option Blk}{I:Nat→Prop}{w:World}{place:Nat→Option (Nat×Nat)}:∀(ps:List (Nat×Value)) (qs:List (Nat×V)) (xs:Array Value) (cs cs':List V),
  ps.length=qs.length→(∀(j:Nat) p q,ps[j]? = some p→qs[j]? = some q→p.1=q.1∧q.2.isV=true∧Rep φ I w p.2 q.2)→
  xs.size=cs.length→(∀(j:Nat) x v,xs[j]? = some x→cs[j]? = some v→Rep φ I w x v)→Qel place cs qs=some cs'→
  ∃xs',Instr.fill place xs ps=some xs'∧xs'.size=cs'.length∧∀(j:Nat) x v,xs'[j]? = some x→cs'[j]? = some v→Rep φ I w x v:=by
 intro ps
 induction ps with
 | nil=>
  intro qs xs cs cs' hl _ hs hr hf
  cases qs with
  | cons=>simp at hl
  | nil=>simp only [Qel,Option.some.injEq]at hf;subst hf;exact⟨xs,rfl,hs,hr⟩
 | cons p ps ih=>
  intro qs xs cs cs' hl hp hs hr hf
  cases qs with
  | nil=>simp at hl
  | cons q qs=>
   obtain⟨i,x⟩:=p
   obtain⟨i',v⟩:=q
   obtain⟨h1,h2,h3⟩:=hp 0 (i,x) (i',v) rfl rfl
   dsimp only at h1 h2 h3
   subst h1
   simp only [Qel]at hf
   cases hpl:place i with
   | none=>rw [hpl]at hf;cases hf
   | some on=>
    obtain⟨off,n⟩:=on
    rw [hpl]at hf
    dsimp only at hf
    cases hb:(Nat.beq v.cells.length n&&Nat.ble (off+n) cs.length)with
    | false=>rw [hb]at hf;cases hf
    | true=>
     rw [hb]at hf
     rw [Bool.and_eq_true]at hb
     have hb1:=Nat.eq_of_beq_eq_true hb.1
     have hb2:=Nat.le_of_ble_eq_true hb.2
     obtain⟨hcs,hc⟩:=h3.cells (V.isV_or h2)
     have hfold:=Qty off x.cells.toList 0 xs (by simp;omega)
     simp only [Nat.add_zero]at hfold
     simp only [Instr.fill,hpl]
     rw [if_neg (by simp;omega)]
     refine ih qs _ _ cs' (by simpa using hl) (fun j p q h1 h2=>hp (j+1) p q h1 h2) ?_ ?_ hf
     ·have:=congrArg List.length hfold
      simp only [Array.length_toList,←Array.foldl_toList,Array.toList_zipIdx]at this ⊢
      rw [this]
      simp [QbG];omega
     ·intro j y u hy hu
      have hy':(xs.toList.take off++x.cells.toList++xs.toList.drop (off+x.cells.toList.length))[j]? = some y:=by
       rw [←hfold,←hy]
       simp only [←Array.foldl_toList,Array.toList_zipIdx,Array.getElem?_toList]
      rw [QbG]at hu
      simp only [Array.length_toList]at hy'
      by_cases hj:j<off
      ·rw [List.append_assoc,List.getElem?_append_left (by simp;omega),List.getElem?_take,if_pos hj]at hy' hu
       exact hr j y u (by simpa using hy') hu
      ·by_cases hj2:j<off+n
       ·rw [List.getElem?_append_left (by simp;omega),List.getElem?_append_right (by simp;omega)]at hy' hu
        refine hc (j-off) y u ?_ ?_
        ·rw [←hy'];simp;congr 1;omega
        ·rw [←hu];simp;congr 1;omega
       ·rw [List.getElem?_append_right (by simp;omega)]at hy' hu
        refine hr j y u ?_ ?_
        ·rw [←hy'];simp;congr 1;omega
        ·rw [←hu];simp;congr 1;omega
def Qm7 (P:Program)(T:TypeId):Option (List (Nat×Nat)):=
 match P.underlying T with
 | some (.struct fs)=>fs.toList.mapM fun f=>match P.info? f.type with
  | some i=>some (f.offset,i.size)
  | none=>none
 | _=>none
theorem QsU : ∀(fs:List Field) (ps:List (Nat×Nat)) (w:World),(fs.mapM fun f=>match P.info? f.type with | some i=>some (f.offset,i.size) | none=>none)=some ps→
  (fs.mapM fun f=>do pure (f.offset,←sizeOf f.type):Sem (List (Nat×Nat))).run P w=.ok ps w:=by
 intro fs
 induction fs with
 | nil=>intro ps w h;simp at h;subst h;simp
 | cons f fs ih=>
  intro ps w h
  rw [List.mapM_cons]at h
  cases hi:P.info? f.type with
  | none=>simp [hi]at h
  | some i=>
   simp only [hi,Option.bind_eq_bind,Option.bind_some,Option.bind_eq_some_iff,Option.pure_def,Option.some.injEq]at h
   obtain⟨ps',h1,rfl⟩:=h
   have:=ih ps' w h1
   simp only [List.mapM_cons,Sem.run_bind,sizeOf,typeInfo,run_program,Result.andThen_ok,hi,Sem.run_pure]at this ⊢
   rw [this]
   rfl
def St.opds (σ:St):List (Nat×Operand)→Option (List (Nat×V))
 | []=>some []
 | (i,x)::r=>match σ.opd x,σ.opds r with
  | some v,some vs=>some ((i,v)::vs)
  | _,_=>none
theorem RR.opds {φ:Nat→Option Blk}{a:Act}{w:World}(h:RR C φ σ a w):∀(ps:List (Nat×Operand)) (qs:List (Nat×V)),σ.opds ps=some qs→
  ps.length=qs.length∧∀(j:Nat) p q,(ps.map fun p=>(p.1,a.eval p.2))[j]? = some p→qs[j]? = some q→p.1=q.1∧Rep φ (Imm C φ w) w p.2 q.2:=by
 intro ps
 induction ps with
 | nil=>intro qs hq;simp only [St.opds,Option.some.injEq]at hq;subst hq;simp
 | cons p ps ih=>
  intro qs hq
  obtain⟨i,x⟩:=p
  simp only [St.opds]at hq
  split at hq
  ·rename_i v vs hv hvs
   cases hq
   obtain⟨h1,h2⟩:=ih vs hvs
   refine⟨by simp [h1],fun j p q hp hq'=>?_⟩
   cases j with
   | zero=>simp at hp hq';subst hp;subst hq';exact⟨rfl,h.opd hv⟩
   | succ j=>exact h2 j p q hp hq'
  ·cases hq
theorem RR.fill {φ:Nat→Option Blk}{a:Act}{w:World}(hr:RR C φ σ a w){place:Nat→Option (Nat×Nat)}{ps:List (Nat×Operand)}{qs:List (Nat×V)}{z:Array Value}{vs:List V}
  (hq:σ.opds ps=some qs) (hv:qs.all (fun q=>q.2.isV)=true) (hf:Qel place (z.toList.map Qfm) qs=some vs):
  ∃xs',Instr.fill place z (ps.map fun p=>(p.1,a.eval p.2))=some xs'∧xs'.size=vs.length∧∀(j:Nat) x v,xs'[j]? = some x→vs[j]? = some v→Rep φ (Imm C φ w) w x v:=by
 obtain⟨h1,h2⟩:=hr.opds ps qs hq
 refine Qug _ qs z _ vs (by simpa using h1) (fun j p q hp hq'=>?_) (by simp) (fun j x v hx hv'=>?_) hf
 ·obtain⟨h3,h4⟩:=h2 j p q hp hq'
  exact⟨h3,by rw [List.all_eq_true]at hv;exact hv q (List.mem_of_getElem? hq'),h4⟩
 ·simp [hx]at hv';subst hv';exact .dat (Dat.const _)
theorem Stp.build {T d:Nat}{parts:Array (Nat×Operand)}{pl:List (Nat×Nat)}{zs vs:List V}{qs:List (Nat×V)}(ho:o.op=.build T parts)(hd:o.dst=some d)(hn:Nat.ble (d+1) C.n=true)
  (hz:Qap P T=some zs) (hpl:Qm7 P T=some pl) (hq:σ.opds parts.toList=some qs) (hv:qs.all (fun q=>q.2.isV)=true)
  (hf:Qel (pl[·]?) zs qs=some vs):Stp P C o σ (σ.put d (.agg vs)):=by
 refine Stp.same hd hn fun φ a w hr=>?_
 obtain⟨i,z,hi,hz',rfl⟩:=QgN hz
 unfold Qm7 at hpl
 split at hpl
 ·rename_i fs hfs
  have hrun:=QsU (P:=P) fs.toList pl w hpl
  obtain⟨xs',h1,h2,h3⟩:=hr.fill hq hv hf
  refine⟨.agg xs',?_,.agg _ _ h2 h3⟩
  have hm:(fs.mapM fun f=>do pure (f.offset,←sizeOf f.type):Sem (Array (Nat×Nat))).run P w=.ok pl.toArray w:=by
   rw [Array.mapM_eq_mapM_toList,Sem.run_map,hrun];rfl
  have e:(fun x:Nat=>pl.toArray[x]?)=fun x:Nat=>pl[x]? := by funext x;simp
  have e2:(parts.map fun p=>(p.1,a.eval p.2)).toList=parts.toList.map fun p=>(p.1,a.eval p.2):=by simp
  simp only [execOp,ho,Instr.build,Sem.run_bind,zeroValue,typeInfo,run_program,Result.andThen_ok,hi,hz',Sem.run_pure,run_underlying hfs,hm,e,e2,h1]
 ·cases hpl
theorem Stp.buildA {T d n z:Nat}{parts:Array (Nat×Operand)}{zs vs:List V}{qs:List (Nat×V)}(ho:o.op=.build T parts)(hd:o.dst=some d)(hn:Nat.ble (d+1) C.n=true)
  (hz:Qap P T=some zs) (hT:Qmi P T=some (n,z)) (hq:σ.opds parts.toList=some qs) (hv:qs.all (fun q=>q.2.isV)=true)
  (hf:Qel (fun i=>some (i*z,z)) zs qs=some vs):Stp P C o σ (σ.put d (.agg vs)):=by
 refine Stp.same hd hn fun φ a w hr=>?_
 obtain⟨i,zv,hi,hz',rfl⟩:=QgN hz
 obtain⟨e,hu,j,hj,rfl⟩:=Qrn hT
 obtain⟨xs',h1,h2,h3⟩:=hr.fill hq hv hf
 refine⟨.agg xs',?_,.agg _ _ h2 h3⟩
 have e2:(parts.map fun p=>(p.1,a.eval p.2)).toList=parts.toList.map fun p=>(p.1,a.eval p.2):=by simp
 simp only [execOp,ho,Instr.build,Sem.run_bind,zeroValue,typeInfo,run_program,Result.andThen_ok,hi,hz',Sem.run_pure,run_underlying hu,sizeOf,hj,e2,h1]
def Qg7 (z:Nat):Nat→List V→List (List V)
 | 0,_=>[]
 | n+1,cs=>cs.take z::Qg7 z n (cs.drop z)
theorem Qfn (z n:Nat)(cs:List V):(Qg7 z n cs).length=n:=by
 induction n generalizing cs with
 | zero=>rfl
 | succ n ih=>simp [Qg7,ih]
theorem Qlm (z:Nat):∀(n:Nat) (cs:List V) (i:Nat),i<n→(Qg7 z n cs)[i]? = some ((cs.drop (i*z)).take z):=by
 intro n
 induction n with
 | zero=>intro cs i h;omega
 | succ n ih=>
  intro cs i h
  cases i with
  | zero=>simp [Qg7]
  | succ i=>simp only [Qg7,List.getElem?_cons_succ];rw [ih _ i (by omega),List.drop_drop,Nat.add_mul];congr 3;omega
theorem Qm8 (zv:Array Value)(n z:Nat)(hz:zv.size=z)(h0:z≠0):((Array.range (n*z)).map (zv[· % zv.size]!)).toList.map Qfm=((List.range (n*z)).map fun k=>(zv.toList.map Qfm).getD (k % z) .J):=by
 simp only [Array.toList_map,Array.toList_range,List.map_map]
 apply List.map_congr_left
 intro k hk
 have hlt:k % zv.size<zv.size:=Nat.mod_lt _ (by omega)
 simp only [Function.comp,←hz]
 rw [getElem!_pos zv (k % zv.size) hlt]
 simp [hlt]
theorem Stp.buildSlice {T d e z by_ n:Nat}{parts:Array (Nat×Operand)}{zs vs:List V}{qs:List (Nat×V)}{rs:List (List V)}(ho:o.op=.buildSlice T n parts)(hd:o.dst=some d)(hn:Nat.ble (d+1) C.n=true)
  (hT:Qax P T=some (e,z,by_)) (hz:Qap P e=some zs) (hzl:zs.length=z) (hz0:z≠0) (hbig:n*z≤16777216) (hq:σ.opds parts.toList=some qs) (hv:qs.all (fun q=>q.2.isV)=true)
  (hf:Qel (fun i=>some (i*z,z)) ((List.range (n*z)).map fun k=>zs.getD (k % z) .J) qs=some vs) (hone:vs.all V.one=true) (hdat:vs.all V.dat=true) (hrs:Qg7 z n vs=rs)
  (hfr:look σ.hp d=none):Stp P C o σ ((σ.set d (.arr z rs)).put d (.own d n)):=by
 refine Stp.val fun φ a w hr=>?_
 obtain⟨hu,i,hi,rfl,_⟩:=QbW hT
 obtain⟨i',zv,hi',hz',rfl⟩:=QgN hz
 rw [hi]at hi';cases hi'
 have hzs:zv.cells.size=i.size:=by simpa using hzl
 have hpos:0<i.size:=Nat.pos_of_ne_zero hz0
 rw [←Qm8 zv.cells n i.size hzs hz0]at hf
 obtain⟨xs',h1,h2,h3⟩:=hr.fill hq hv hf
 have hvl:vs.length=n*i.size:=by
  have key:∀(qs:List (Nat×V)) (cs cs':List V) (pl:Nat→Option (Nat×Nat)),Qel pl cs qs=some cs'→cs'.length=cs.length:=by
   intro qs
   induction qs with
   | nil=>intro cs cs' pl h;simp only [Qel,Option.some.injEq]at h;rw [h]
   | cons q qs ih=>
    intro cs cs' pl h
    obtain⟨k,v⟩:=q
    simp only [Qel]at h
    split at h
    ·cases h
    ·rename_i off m _
     cases hb:(Nat.beq v.cells.length m&&Nat.ble (off+m) cs.length)with
     | false=>rw [hb]at h;cases h
     | true=>
      rw [hb]at h
      rw [Bool.and_eq_true]at hb
      have hb1:=Nat.eq_of_beq_eq_true hb.1
      have hb2:=Nat.le_of_ble_eq_true hb.2
      rw [ih _ _ _ h]
      simp [QbG];omega
  rw [key _ _ _ _ hf];simp
 subst hrs
 refine⟨.slice (some ⟨w.heap.size,0,none⟩) n n,w.alloc (.cells xs' e),ext φ d ⟨w.heap.size,n,i.size,[],0⟩,?_,?_⟩
 ·have e2:(parts.map fun p=>(p.1,a.eval p.2)).toList=parts.toList.map fun p=>(p.1,a.eval p.2):=by simp
  have hb:¬(n*i.size > 2 ^ 24):=by omega
  by_cases hn0:n*i.size=0
  ·have hn1:n=0:=by rcases Nat.mul_eq_zero.1 hn0 with h | h<;>omega
   subst hn1
   simp only [Nat.zero_mul]at h1
   rw [Array.range_zero',Array.map_empty]at h1
   simp only [execOp,ho,Instr.buildSlice,Sem.run_bind,run_underlying hu,Result.andThen_ok,sizeOf,typeInfo,run_program,hi,Sem.run_pure,Nat.zero_mul,if_true,e2,Array.range_zero',Array.map_empty]
   simp [h1,newRow]
  ·simp only [execOp,ho,Instr.buildSlice,Sem.run_bind,run_underlying hu,Result.andThen_ok,sizeOf,typeInfo,run_program,hi,Sem.run_pure,if_neg hb,if_neg hn0,zeroValue,hz',e2,h1,newRow,run_newObj]
   simp
 ·have hN:=hr.none_of_look hfr
  have hnew:=hr.alloc (cap:=n) (z:=i.size) hfr (C.slot hn) (ob:=.arr i.size (Qg7 i.size n vs)) (obj:=.cells xs' e)
   (QaC.mk0 rfl rfl (by rw [Qfn];exact Nat.le_refl _) (fun r hr'=>by
    obtain⟨j,hj⟩:=List.getElem?_of_mem hr'
    have hjn:j<n:=by have:=(List.getElem?_eq_some_iff.1 hj).1;rwa [Qfn]at this
    rw [Qlm _ _ _ _ hjn]at hj;cases hj
    have:(j+1)*i.size≤n*i.size:=Nat.mul_le_mul_right _ hjn
    rw [Nat.add_mul]at this
    refine⟨by simp;omega,fun v hv=>?_⟩
    rw [List.all_eq_true]at hone
    exact hone v (List.mem_of_mem_drop (List.mem_of_mem_take hv))) _ e (heap_alloc_new w _) (by rw [h2,hvl]) fun m r hm j v hv'=>by
    have hmn:m<n:=by have:=(List.getElem?_eq_some_iff.1 hm).1;rwa [Qfn]at this
    rw [Qlm _ _ _ _ hmn]at hm;cases hm
    rw [List.getElem?_take]at hv'
    have hjz:j<i.size:=by
     rcases Nat.lt_or_ge j i.size with h | h
     ·exact h
     ·rw [if_neg (by omega)]at hv';simp at hv'
    rw [if_pos hjz,List.getElem?_drop]at hv'
    have hlt:m*i.size+j<xs'.size:=by rw [h2];exact(List.getElem?_eq_some_iff.1 hv').1
    refine⟨xs'[m*i.size+j],Array.getElem?_eq_getElem hlt,?_⟩
    have hD:=(h3 _ _ v (Array.getElem?_eq_getElem hlt) hv').toDat (by rw [List.all_eq_true]at hdat;exact hdat v (List.mem_of_getElem? hv'))
    exact hD.mono (hr.imm_alloc d n i.size _ hN))
  rw [hd]
  refine hnew.put (QS hn) ?_
  exact .own d n ⟨w.heap.size,n,i.size,[],0⟩ (QM _ _ _) (Nat.le_refl _)
end
def den1 : Option Nat→V→V
 | some z,.lit (.slice none 0 0)=>.sl z []
 | _,v=>v
def denL : List (Option Nat)→List V→List V
 | m::ms,v::vs=>den1 m v::denL ms vs
 | _,vs=>vs
def V.denil (ms:List (Option Nat)):V→V
 | .agg cs=>.agg (denL ms cs)
 | .tup cs=>.tup (denL ms cs)
 | v=>den1 (ms.headD none) v
section
variable {φ:Nat→Option Blk}{I:Nat→Prop}{w:World}{x:Value}{v:V}
theorem Rep.den1 {m:Option Nat}(h:Rep φ I w x v):Rep φ I w x (Vm.den1 m v):=by
 unfold Vm.den1
 split
 ·rw [h.lit_inv];exact .dat (.sl0 _ _ _)
 ·exact h
theorem Qm9 : ∀(ms:List (Option Nat)) (vs:List V),(denL ms vs).length=vs.length:=by
 intro ms
 induction ms with
 | nil=>intro vs;cases vs<;>rfl
 | cons m ms ih=>intro vs;cases vs with
  | nil=>rfl
  | cons v vs=>simp [denL,ih vs]
theorem Qly : ∀(ms:List (Option Nat)) (vs:List V) (j:Nat) (u:V),(denL ms vs)[j]? = some u→∃m v,vs[j]? = some v∧u=Vm.den1 m v:=by
 intro ms
 induction ms with
 | nil=>intro vs j u h;cases vs<;>exact⟨none,u,h,rfl⟩
 | cons m ms ih=>
  intro vs j u h
  cases vs with
  | nil=>simp [denL]at h
  | cons v vs=>
   cases j with
   | zero=>simp [denL]at h;exact⟨m,v,rfl,h.symm⟩
   | succ j=>simp [denL]at h;exact ih vs j u h
theorem Rep.denil {ms:List (Option Nat)}(h:Rep φ I w x v):Rep φ I w x (v.denil ms):=by
 unfold V.denil
 split
 ·obtain⟨xs,rfl,hs,hr⟩:=h.agg_inv
  refine .agg xs _ (by rw [Qm9];exact hs) fun j y u hy hu=>?_
  obtain⟨m,v,hv,rfl⟩:=Qly _ _ j u hu
  exact(hr j y v hy hv).den1
 ·obtain⟨xs,rfl,hs,hr⟩:=h.tup_inv
  refine .tup xs _ (by rw [Qm9];exact hs) fun j y u hy hu=>?_
  obtain⟨m,v,hv,rfl⟩:=Qly _ _ j u hu
  exact(hr j y v hy hv).den1
 ·exact h.den1
end
section
variable {P:Program}{C:Ctx}{σ:St}{o:Oper}
theorem Stp.buildSliceD {T d e z by_ n:Nat}{parts:Array (Nat×Operand)}{zs vs:List V}{qs:List (Nat×V)}{rs:List (List V)}(ms:List (Option Nat))(ho:o.op=.buildSlice T n parts)(hd:o.dst=some d)(hn:Nat.ble (d+1) C.n=true)
  (hT:Qax P T=some (e,z,by_)) (hz:Qap P e=some zs) (hzl:zs.length=z) (hz0:z≠0) (hbig:n*z≤16777216) (hq:σ.opds parts.toList=some qs) (hv:qs.all (fun q=>q.2.isV)=true)
  (hf:Qel (fun i=>some (i*z,z)) ((List.range (n*z)).map fun k=>zs.getD (k % z) .J) qs=some vs) (hone:(denL ms vs).all V.one=true) (hdat:(denL ms vs).all V.dat=true) (hrs:Qg7 z n (denL ms vs)=rs):Stp P C o σ (σ.put d (.sl z rs)):=by
 refine Stp.val fun φ a w hr=>?_
 obtain⟨hu,i,hi,rfl,_⟩:=QbW hT
 obtain⟨i',zv,hi',hz',rfl⟩:=QgN hz
 rw [hi]at hi';cases hi'
 have hzs:zv.cells.size=i.size:=by simpa using hzl
 have hpos:0<i.size:=Nat.pos_of_ne_zero hz0
 rw [←Qm8 zv.cells n i.size hzs hz0]at hf
 obtain⟨xs',h1,h2,h3⟩:=hr.fill hq hv hf
 have hvl:vs.length=n*i.size:=by
  have key:∀(qs:List (Nat×V)) (cs cs':List V) (pl:Nat→Option (Nat×Nat)),Qel pl cs qs=some cs'→cs'.length=cs.length:=by
   intro qs
   induction qs with
   | nil=>intro cs cs' pl h;simp only [Qel,Option.some.injEq]at h;rw [h]
   | cons q qs ih=>
    intro cs cs' pl h
    obtain⟨k,v⟩:=q
    simp only [Qel]at h
    split at h
    ·cases h
    ·rename_i off m _
     cases hb:(Nat.beq v.cells.length m&&Nat.ble (off+m) cs.length)with
     | false=>rw [hb]at h;cases h
     | true=>
      rw [hb]at h
      rw [Bool.and_eq_true]at hb
      have hb1:=Nat.eq_of_beq_eq_true hb.1
      have hb2:=Nat.le_of_ble_eq_true hb.2
      rw [ih _ _ _ h]
      simp [QbG];omega
  rw [key _ _ _ _ hf];simp
 subst hrs
 refine⟨.slice (some ⟨w.heap.size,0,none⟩) n n,w.alloc (.cells xs' e),φ,?_,?_⟩
 ·have e2:(parts.map fun p=>(p.1,a.eval p.2)).toList=parts.toList.map fun p=>(p.1,a.eval p.2):=by simp
  have hb:¬(n*i.size > 2 ^ 24):=by omega
  by_cases hn0:n*i.size=0
  ·have hn1:n=0:=by rcases Nat.mul_eq_zero.1 hn0 with h | h<;>omega
   subst hn1
   simp only [Nat.zero_mul]at h1
   rw [Array.range_zero',Array.map_empty]at h1
   simp only [execOp,ho,Instr.buildSlice,Sem.run_bind,run_underlying hu,Result.andThen_ok,sizeOf,typeInfo,run_program,hi,Sem.run_pure,Nat.zero_mul,if_true,e2,Array.range_zero',Array.map_empty]
   simp [h1,newRow]
  ·simp only [execOp,ho,Instr.buildSlice,Sem.run_bind,run_underlying hu,Result.andThen_ok,sizeOf,typeInfo,run_program,hi,Sem.run_pure,if_neg hb,if_neg hn0,zeroValue,hz',e2,h1,newRow,run_newObj]
   simp
 ·have hold:∀k,k<w.heap.size→(w.alloc (.cells xs' e)).heap[k]? = w.heap[k]? := fun k hk=>heap_alloc_old w _ hk
  have hst:=hr.step (w':=w.alloc (.cells xs' e)) rfl rfl rfl (by simp) hold
  have hnewI:Imm C φ (w.alloc (.cells xs' e)) w.heap.size:=⟨by simp,fun h=>absurd hr.size (by omega),fun o B hB hk=>absurd (hr.lt o B _ hB hk).1 (Nat.lt_irrefl _)⟩
  have hI:∀k,Imm C φ w k→Imm C φ (w.alloc (.cells xs' e)) k∧(w.alloc (.cells xs' e)).heap[k]? = w.heap[k]? := fun k hk=>⟨⟨Nat.lt_of_lt_of_le hk.1 (by simp),hk.2⟩,hold k hk.1⟩
  rw [hd]
  refine hst.put (QS hn) (.dat (.sl w.heap.size 0 n n i.size (Qg7 i.size n (denL ms vs)) (fun j=>xs'.getD j undef) hnewI (Qfn _ _ _).symm (Nat.le_refl _) (fun r hr'=>?_) (fun j hj=>?_) (fun m r hm j v hv'=>?_)))
  ·obtain⟨j,hj⟩:=List.getElem?_of_mem hr'
   have hjn:j<n:=by have:=(List.getElem?_eq_some_iff.1 hj).1;rwa [Qfn]at this
   rw [Qlm _ _ _ _ hjn]at hj;cases hj
   have:(j+1)*i.size≤n*i.size:=Nat.mul_le_mul_right _ hjn
   rw [Nat.add_mul]at this
   refine⟨by simp [Qm9];omega,fun v hv=>?_⟩
   rw [List.all_eq_true]at hone
   exact hone v (List.mem_of_mem_drop (List.mem_of_mem_take hv))
  ·have:j<xs'.size:=by omega
   have hh:=heap_alloc_new w (.cells xs' e)
   simp only [World.cell?,hh]
   simp [Array.getD,this]
  ·have hmn:m<n:=by have:=(List.getElem?_eq_some_iff.1 hm).1;rwa [Qfn]at this
   rw [Qlm _ _ _ _ hmn]at hm;cases hm
   rw [List.getElem?_take]at hv'
   have hjz:j<i.size:=by
    rcases Nat.lt_or_ge j i.size with h | h
    ·exact h
    ·rw [if_neg (by omega)]at hv';simp at hv'
   rw [if_pos hjz,List.getElem?_drop]at hv'
   obtain⟨mm,v0,hv0,hvv⟩:=Qly _ _ _ _ hv'
   have hlt:m*i.size+j<xs'.size:=by rw [h2];exact(List.getElem?_eq_some_iff.1 hv0).1
   have hR:Rep φ (Imm C φ w) w xs'[m*i.size+j] v:=by rw [hvv];exact(h3 _ _ v0 (Array.getElem?_eq_getElem hlt) hv0).den1
   have hD:=hR.toDat (by rw [List.all_eq_true]at hdat;exact hdat v (List.mem_of_getElem? hv'))
   have:xs'.getD (m*i.size+j) undef=xs'[m*i.size+j]:=by simp [Array.getD,hlt]
   rw [this]
   exact hD.mono hI
end
end Go.Vm
