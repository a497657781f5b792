/- A part of the proof; what it holds is told at each theorem. -/
import Derived.Test.YtpijolohkdchcaaGreatDoorXVmD
set_option linter.unusedVariables false
set_option linter.unusedSimpArgs false
set_option linter.unusedSectionVars false
set_option linter.deprecated false
namespace Go.Vm
open Go Go.RowKit
section
variable {P:Program}{C:Ctx}{σ:St}{o:Oper}
theorem Qtx {i i' z j off n:Nat}(h:i'≠i)(hj:j<z)(hn:off+n≤z):i'*z+j<i*z+off∨i*z+off+n≤i'*z+j:=by
 rcases Nat.lt_or_gt_of_ne h with h | h
 ·left
  have:(i'+1)*z≤i*z:=Nat.mul_le_mul_right z h
  rw [Nat.add_mul]at this;omega
 ·right
  have:(i+1)*z≤i'*z:=Nat.mul_le_mul_right z h
  rw [Nat.add_mul]at this;omega
theorem Stp.storeAV {T b i off n z:Nat}{x y:Operand}{rs rs':List (List V)}{r:List V}{v:V}(ho:o.op=.store T x y)(hd:o.dst=none)(hx:σ.opd x=some (.loc b i off))
  (hb:look σ.hp b=some (.arr z rs)) (hi:rs[i]? = some r) (hy:∀φ a w,RR C φ σ a w→Rep φ (Imm C φ w) w (a.eval y) v) (h1:v.one=true∨∃cs,v=.agg cs) (hs:Qfy P T=some n) (hl:v.cells.length=n)
  (hall:v.cells.all V.one=true) (hdat:v.cells.all V.dat=true) (hle:Nat.ble (off+n) z=true) (he:rs.set i (QbG r off v.cells)=rs'):Stp P C o σ (σ.set b (.arr z rs')):=by
 refine Stp.skp fun φ a w hr=>?_
 subst he
 have hle:=Nat.le_of_ble_eq_true hle
 obtain⟨B,hB,he⟩:=(hr.opd hx).loc_inv
 obtain⟨hz,hrl,hok,xs,E,e1,e2,e3⟩:=hr.block hB hb
 subst hz
 have hv:=hy φ a w hr
 obtain⟨hcs,hc⟩:=hv.cells h1
 have hsz:(a.eval y).cells.size=n:=by rw [hcs,hl]
 have hilt:i<rs.length:=(List.getElem?_eq_some_iff.1 hi).1
 have hrlen:r.length=B.z:=(hok r (List.mem_of_getElem? hi)).1
 have hbig:B.off+(i*B.z+B.z)≤xs.size:=by
  refine Nat.le_trans ?_ e2
  have:(i+1)*B.z≤B.cap*B.z:=Nat.mul_le_mul_right _ (by omega)
  rw [Nat.add_mul]at this;omega
 have hrun:=Qpv (off:=B.off+(i*B.z+off)) hs hsz e1 (by omega) (hv.cells_one h1 hall)
 refine⟨w.setRow B.b (xs.toList.take (B.off+(i*B.z+off))++(a.eval y).cells.toList++xs.toList.drop (B.off+(i*B.z+off)+n)).toArray,φ,?_,?_⟩
 ·simp only [execOp,ho,he,Sem.run_bind,hrun,Result.andThen_ok,Sem.run_pure]
 ·rw [hd]
  have hl1:(xs.toList.take (B.off+(i*B.z+off))++(a.eval y).cells.toList++xs.toList.drop (B.off+(i*B.z+off)+n)).length=xs.size:=by simp;omega
  refine hr.write hB rfl rfl rfl (by simp) (fun k hk=>setRow_other w B.b k _ hk) ⟨rfl,by simpa using hrl,?_,_,E,setRow_heap w B.b xs _ E _ e1,?_,?_⟩
  ·intro r' hr'
   rcases List.mem_or_eq_of_mem_set hr' with h | h
   ·exact hok r' h
   ·subst h
    refine⟨by simp [QbG,hl];omega,fun u hu=>?_⟩
    simp only [QbG,List.mem_append]at hu
    rcases hu with(hu | hu) | hu
    ·exact(hok r (List.mem_of_getElem? hi)).2 u (List.mem_of_mem_take hu)
    ·rw [List.all_eq_true]at hall;exact hall u hu
    ·exact(hok r (List.mem_of_getElem? hi)).2 u (List.mem_of_mem_drop hu)
  ·simp only [List.size_toArray,hl1];exact e2
  ·have hI:∀k,Imm C φ w k→Imm C φ (w.setRow B.b (xs.toList.take (B.off+(i*B.z+off))++(a.eval y).cells.toList++xs.toList.drop (B.off+(i*B.z+off)+n)).toArray) k∧
     (w.setRow B.b (xs.toList.take (B.off+(i*B.z+off))++(a.eval y).cells.toList++xs.toList.drop (B.off+(i*B.z+off)+n)).toArray).heap[k]? = w.heap[k]?:=
    fun k hk=>⟨⟨by simpa using hk.1,hk.2⟩,setRow_other w B.b k _ fun e=>hk.2.2 b B hB (.inl e)⟩
   have old:∀(i':Nat) r',rs[i']? = some r'→∀(j:Nat) u,r'[j]? = some u→(i'*B.z+j<i*B.z+off∨i*B.z+off+n≤i'*B.z+j)→
     ∃y',(xs.toList.take (B.off+(i*B.z+off))++(a.eval y).cells.toList++xs.toList.drop (B.off+(i*B.z+off)+n)).toArray[B.off+(i'*B.z+j)]? = some y'∧
      Dat (Imm C φ (w.setRow B.b (xs.toList.take (B.off+(i*B.z+off))++(a.eval y).cells.toList++xs.toList.drop (B.off+(i*B.z+off)+n)).toArray))
       (w.setRow B.b (xs.toList.take (B.off+(i*B.z+off))++(a.eval y).cells.toList++xs.toList.drop (B.off+(i*B.z+off)+n)).toArray) y' u:=by
    intro i' r' hi' j u hu hout
    obtain⟨y',h1',h2'⟩:=e3 i' r' hi' j u hu
    refine⟨y',?_,h2'.mono hI⟩
    rw [List.getElem?_toArray]
    rcases hout with hout | hout
    ·rw [List.append_assoc,List.getElem?_append_left (by simp;omega),List.getElem?_take,if_pos (by omega)];simpa using h1'
    ·have hlt:B.off+(i'*B.z+j)<xs.size:=(Array.getElem?_eq_some_iff.1 h1').1
     rw [List.getElem?_append_right (by simp;omega),List.getElem?_drop]
     rw [←h1'];simp;congr 1;omega
   intro i' r' hi' j u hu
   by_cases e:i'=i
   ·subst e
    rw [List.getElem?_set_self (by omega)]at hi'
    cases hi'
    by_cases hj:j<off
    ·have hu':r[j]? = some u:=by
      rw [QbG,List.append_assoc,List.getElem?_append_left (by simp;omega),List.getElem?_take,if_pos hj]at hu;exact hu
     exact old i' r hi j u hu' (.inl (by omega))
    ·by_cases hj2:j<off+n
     ·have hu':v.cells[j-off]? = some u:=by
       rw [QbG,List.getElem?_append_left (by simp;omega),List.getElem?_append_right (by simp;omega)]at hu
       rw [←hu];congr 1;simp;omega
      have hlt:j-off<(a.eval y).cells.size:=by omega
      have hD:=(hc (j-off) _ u (Array.getElem?_eq_getElem hlt) hu').toDat (by
       rw [List.all_eq_true]at hdat;exact hdat u (List.mem_of_getElem? hu'))
      refine⟨(a.eval y).cells[j-off],?_,hD.mono hI⟩
      rw [List.getElem?_toArray,List.getElem?_append_left (by simp;omega),List.getElem?_append_right (by simp;omega)]
      have:B.off+(i'*B.z+j)-(xs.toList.take (B.off+(i'*B.z+off))).length=j-off:=by simp;omega
      rw [this];simp [hlt]
     ·have hu':r[j]? = some u:=by
       rw [QbG,List.getElem?_append_right (by simp;omega),List.getElem?_drop]at hu
       rw [←hu];congr 1;simp;omega
      exact old i' r hi j u hu' (.inr (by omega))
   ·have hi'':rs[i']? = some r':=by rwa [List.getElem?_set_ne (Ne.symm e)]at hi'
    have hjz:j<B.z:=by
     have:=(List.getElem?_eq_some_iff.1 hu).1
     rwa [(hok r' (List.mem_of_getElem? hi'')).1]at this
    exact old i' r' hi'' j u hu (Qtx e hjz hle)
theorem Stp.storeA {T b i off n z:Nat}{x y:Operand}{rs rs':List (List V)}{r:List V}{v:V}(ho:o.op=.store T x y)(hd:o.dst=none)(hx:σ.opd x=some (.loc b i off))
  (hb:look σ.hp b=some (.arr z rs)) (hi:rs[i]? = some r) (hy:σ.opd y=some v) (h1:v.one=true∨∃cs,v=.agg cs) (hs:Qfy P T=some n) (hl:v.cells.length=n)
  (hall:v.cells.all V.one=true) (hdat:v.cells.all V.dat=true) (hle:Nat.ble (off+n) z=true) (he:rs.set i (QbG r off v.cells)=rs'):Stp P C o σ (σ.set b (.arr z rs')):=
 Stp.storeAV ho hd hx hb hi (fun φ a w hr=>hr.opd hy) h1 hs hl hall hdat hle he
theorem Qpw {T f off:Nat}{w:World}{p:Addr}(hf:Qja P T f=some off):(Instr.fieldAt T (.pointer (some p)) f).run P w=.ok (.pointer (some (p.add off))) w:=by
 unfold Qja at hf
 split at hf
 ·rename_i fs hfs
  split at hf
  ·rename_i fl hfl
   split at hf
   ·rename_i i hi
    split at hf
    ·cases hf
    ·rename_i hne
     cases hf
     simp [Instr.fieldAt,run_underlying hfs,hfl,Instr.sureAddr,fieldPlace,sizeOf,typeInfo,hi,hne]
   ·cases hf
  ·cases hf
 ·cases hf
theorem Stp.fieldL {T f d b i k off:Nat}{x:Operand}(ho:o.op=.fieldAddr T x f)(hd:o.dst=some d)(hn:Nat.ble (d+1) C.n=true)(hx:σ.opd x=some (.loc b i k))
  (hf:Qja P T f=some off):Stp P C o σ (σ.put d (.loc b i (k+off))):=by
 refine Stp.same hd hn fun φ a w hr=>?_
 obtain⟨B,hB,he⟩:=(hr.opd hx).loc_inv
 refine⟨.pointer (some ⟨B.b,B.off+(i*B.z+(k+off)),none⟩),?_,.loc b i (k+off) B hB⟩
 simp only [execOp,ho,he,Sem.run_bind,Qpw hf,Result.andThen_ok,Sem.run_pure,Addr.add_lit,Nat.add_assoc]
theorem Dat.ro_drop {I:Nat→Prop}{w:World}{b off:Nat}{cs:List V}{c:Nat→Value}(k:Nat)(hI:I b)(h1:∀v∈cs,v.one=true)(hc:∀j,j<cs.length→w.cell? ⟨b,off+j,none⟩=some (c j))
  (hd:∀(j:Nat) v,cs[j]? = some v→Dat I w (c j) v):Dat I w (.pointer (some ⟨b,off+k,none⟩)) (.ro (cs.drop k)):=by
 refine .ro b (off+k) _ (fun j=>c (k+j)) hI (fun v hv=>h1 v (List.mem_of_mem_drop hv)) (fun j hj=>?_) fun j v hv=>hd (k+j) v (by rwa [List.getElem?_drop]at hv)
 have:=hc (k+j) (by simp at hj;omega)
 rwa [←Nat.add_assoc]at this
theorem Stp.fieldR {T f d off:Nat}{x:Operand}{cs cs':List V}(ho:o.op=.fieldAddr T x f)(hd:o.dst=some d)(hn:Nat.ble (d+1) C.n=true)(hx:σ.opd x=some (.ro cs))
  (hf:Qja P T f=some off) (he:cs.drop off=cs'):Stp P C o σ (σ.put d (.ro cs')):=by
 refine Stp.same hd hn fun φ a w hr=>?_
 subst he
 obtain⟨b,k,he,hI,h1,c,hc,hD⟩:=(hr.opd hx).ro_inv
 refine⟨.pointer (some ⟨b,k+off,none⟩),?_,.dat (Dat.ro_drop off hI h1 hc hD)⟩
 simp only [execOp,ho,he,Sem.run_bind,Qpw hf,Result.andThen_ok,Sem.run_pure,Addr.add_lit]
theorem QbW {T e z by_:Nat}(h:Qax P T=some (e,z,by_)):P.underlying T=some (.slice e)∧∃i,P.info? e=some i∧i.size=z∧i.bytes=by_:=by
 unfold Qax at h
 split at h
 ·rename_i e' he
  split at h
  ·rename_i i hi;cases h;exact⟨he,i,hi,rfl,rfl⟩
  ·cases h
 ·cases h
theorem Qrn {T n z:Nat}(h:Qmi P T=some (n,z)):∃e,P.underlying T=some (.array n e)∧∃i,P.info? e=some i∧i.size=z:=by
 unfold Qmi at h
 split at h
 ·rename_i n' e' he
  split at h
  ·rename_i i hi;cases h;exact⟨e',he,i,hi,rfl⟩
  ·cases h
 ·cases h
theorem Qlx {T e z by_ len cap:Nat}{w:World}{p:Addr}{k:IntKind}{j:Int}(hT:Qax P T=some (e,z,by_))(h0:0≤j)(h1:j<len):
  (Instr.indexAt T (.slice (some p) len cap) (.int k j)).run P w=.ok (.pointer (some (p.add (j.toNat*z)))) w:=by
 obtain⟨hu,i,hi,rfl,rfl⟩:=QbW hT
 simp [Instr.indexAt,asIntOf,run_underlying hu,sizeOf,typeInfo,hi,h0,h1]
theorem Stp.idxS {T d e z by_:Nat}{x y:Operand}{rows:List (List V)}{r:List V}{k:IntKind}{j:Int}(ho:o.op=.indexAddr T x y)(hd:o.dst=some d)(hn:Nat.ble (d+1) C.n=true)
  (hx:σ.opd x=some (.sl z rows)) (hy:σ.opd y=some (.i k j)) (hT:Qax P T=some (e,z,by_)) (h0:0≤j) (hr':rows[j.toNat]? = some r):Stp P C o σ (σ.put d (.ro r)):=by
 refine Stp.same hd hn fun φ a w hr=>?_
 have hlt:j.toNat<rows.length:=(List.getElem?_eq_some_iff.1 hr').1
 rcases(hr.opd hx).sl_inv with⟨_,_,_,rfl⟩|⟨b,off,cap,he,hI,hcap,hok,c,hc,hD⟩
 ·simp at hr'
 ·have hrow:=hok r (List.mem_of_getElem? hr')
  have hbig:j.toNat*z+z≤rows.length*z:=by
   have:(j.toNat+1)*z≤rows.length*z:=Nat.mul_le_mul_right _ hlt
   rw [Nat.add_mul]at this;omega
  refine⟨.pointer (some ⟨b,off+j.toNat*z,none⟩),?_,.dat (.ro b _ r (fun m=>c (j.toNat*z+m)) hI hrow.2 (fun m hm=>?_) (fun m v hv=>hD _ r hr' m v hv))⟩
  ·simp only [execOp,ho,he,(hr.opd hy).i_inv,Sem.run_bind,Qlx hT h0 (show j<(rows.length:Int) by omega),Result.andThen_ok,Sem.run_pure,Addr.add_lit]
  ·have:=hc (j.toNat*z+m) (by rw [hrow.1]at hm;omega)
   rwa [←Nat.add_assoc]at this
theorem Stp.idxO {T d e z by_ b n:Nat}{x y:Operand}{rs:List (List V)}{k:IntKind}{j:Int}(ho:o.op=.indexAddr T x y)(hd:o.dst=some d)(hn:Nat.ble (d+1) C.n=true)
  (hx:σ.opd x=some (.own b n)) (hy:σ.opd y=some (.i k j)) (hT:Qax P T=some (e,z,by_)) (hb:look σ.hp b=some (.arr z rs)) (h0:0≤j) (h1:j<n):
  Stp P C o σ (σ.put d (.loc b j.toNat 0)):=by
 refine Stp.same hd hn fun φ a w hr=>?_
 rcases(hr.opd hx).own_inv with⟨_,rfl⟩|⟨B,hB,hcap,he⟩
 ·omega
 ·have hz:B.z=z:=(hr.block hB hb).1
  refine⟨.pointer (some ⟨B.b,B.off+(j.toNat*B.z+0),none⟩),?_,.loc b j.toNat 0 B hB⟩
  simp only [execOp,ho,he,(hr.opd hy).i_inv,Sem.run_bind,Qlx hT h0 h1,Result.andThen_ok,Sem.run_pure,Addr.add_lit,hz,Nat.zero_add,Nat.add_zero]
theorem Qn6 {T z n:Nat}{w:World}{p:Addr}{k:IntKind}{j:Int}(hT:Qmi P T=some (n,z))(h0:0≤j)(h1:j<n):
  (Instr.indexAt T (.pointer (some p)) (.int k j)).run P w=.ok (.pointer (some (p.add (j.toNat*z)))) w:=by
 obtain⟨e,hu,i,hi,rfl⟩:=Qrn hT
 simp [Instr.indexAt,asIntOf,run_underlying hu,sizeOf,typeInfo,hi,h0,h1,Instr.sureAddr]
theorem Stp.idxAL {T d z n b i m off:Nat}{x y:Operand}{k:IntKind}{j:Int}(ho:o.op=.indexAddr T x y)(hd:o.dst=some d)(hn:Nat.ble (d+1) C.n=true)
  (hx:σ.opd x=some (.loc b i m)) (hy:σ.opd y=some (.i k j)) (hT:Qmi P T=some (n,z)) (h0:0≤j) (h1:j<n) (hoff:m+j.toNat*z=off):Stp P C o σ (σ.put d (.loc b i off)):=by
 refine Stp.same hd hn fun φ a w hr=>?_
 subst hoff
 obtain⟨B,hB,he⟩:=(hr.opd hx).loc_inv
 refine⟨.pointer (some ⟨B.b,B.off+(i*B.z+(m+j.toNat*z)),none⟩),?_,.loc b i _ B hB⟩
 simp only [execOp,ho,he,(hr.opd hy).i_inv,Sem.run_bind,Qn6 hT h0 h1,Result.andThen_ok,Sem.run_pure,Addr.add_lit,Nat.add_assoc]
theorem Stp.idxAR {T d z n:Nat}{x y:Operand}{k:IntKind}{j:Int}{cs cs':List V}(ho:o.op=.indexAddr T x y)(hd:o.dst=some d)(hn:Nat.ble (d+1) C.n=true)
  (hx:σ.opd x=some (.ro cs)) (hy:σ.opd y=some (.i k j)) (hT:Qmi P T=some (n,z)) (h0:0≤j) (h1:j<n) (he:cs.drop (j.toNat*z)=cs'):Stp P C o σ (σ.put d (.ro cs')):=by
 refine Stp.same hd hn fun φ a w hr=>?_
 subst he
 obtain⟨b,m,he,hI,h1',c,hc,hD⟩:=(hr.opd hx).ro_inv
 refine⟨.pointer (some ⟨b,m+j.toNat*z,none⟩),?_,.dat (Dat.ro_drop _ hI h1' hc hD)⟩
 simp only [execOp,ho,he,(hr.opd hy).i_inv,Sem.run_bind,Qn6 hT h0 h1,Result.andThen_ok,Sem.run_pure,Addr.add_lit]
def strB (P:Program)(t:TypeId):Bool:=match P.underlying t with | some .string=>true | _=>false
theorem QpC {T:Nat}(h:strB P T=true):P.underlying T=some .string:=by
 unfold strB at h
 split at h
 ·assumption
 ·cases h
theorem Stp.idxStr {T d:Nat}{x y:Operand}{k:IntKind}{j:Int}{s:ByteArray}{c:UInt8}(ho:o.op=.index T x y)(hd:o.dst=some d)(hn:Nat.ble (d+1) C.n=true)
  (hx:σ.opd x=some (.s s)) (hy:σ.opd y=some (.i k j)) (hT:strB P T=true) (h0:0≤j) (hc:s[j.toNat]? = some c):Stp P C o σ (σ.put d (.i .u8 c.toNat)):=by
 refine Stp.same hd hn fun φ a w hr=>?_
 refine⟨.int .u8 c.toNat,?_,.dat (.i _ _)⟩
 simp [execOp,ho,(hr.opd hx).s_inv,(hr.opd hy).i_inv,Instr.index,asIntOf,run_underlying (QpC hT),h0,hc]
theorem Stp.lenS {T d e z z' by_:Nat}{x:Operand}{rows:List (List V)}(ho:o.op=.call { callee:=.builtin .len,args:=#[x],argTypes:=#[T] })(hd:o.dst=some d)(hn:Nat.ble (d+1) C.n=true)
  (hx:σ.opd x=some (.sl z rows)) (hT:Qax P T=some (e,z',by_)):Stp P C o σ (σ.put d (.i .i64 rows.length)):=by
 refine Stp.same hd hn fun φ a w hr=>?_
 obtain⟨hu,_⟩:=QbW hT
 refine⟨.int .i64 rows.length,?_,.dat (.i _ _)⟩
 rcases(hr.opd hx).sl_inv with⟨p,cap,he,rfl⟩|⟨b,off,cap,he,_⟩ <;>
  simp [execOp,ho,he,resolve,invoke,builtin,Builtin.len_,run_underlying hu,goInt]
theorem Stp.lenO {T d e z' by_ b n:Nat}{x:Operand}(ho:o.op=.call { callee:=.builtin .len,args:=#[x],argTypes:=#[T] })(hd:o.dst=some d)(hn:Nat.ble (d+1) C.n=true)
  (hx:σ.opd x=some (.own b n)) (hT:Qax P T=some (e,z',by_)):Stp P C o σ (σ.put d (.i .i64 n)):=by
 refine Stp.same hd hn fun φ a w hr=>?_
 obtain⟨hu,_⟩:=QbW hT
 refine⟨.int .i64 n,?_,.dat (.i _ _)⟩
 rcases(hr.opd hx).own_inv with⟨he,rfl⟩|⟨B,_,_,he⟩ <;>
  simp [execOp,ho,he,resolve,invoke,builtin,Builtin.len_,run_underlying hu,goInt]
theorem Stp.lenN {T d e z' by_:Nat}{x:Operand}(ho:o.op=.call { callee:=.builtin .len,args:=#[x],argTypes:=#[T] })(hd:o.dst=some d)(hn:Nat.ble (d+1) C.n=true)
  (hx:σ.opd x=some (.lit (.slice none 0 0))) (hT:Qax P T=some (e,z',by_)):Stp P C o σ (σ.put d (.i .i64 0)):=by
 refine Stp.same hd hn fun φ a w hr=>?_
 obtain⟨hu,_⟩:=QbW hT
 refine⟨.int .i64 0,?_,.dat (.i _ _)⟩
 simp [execOp,ho,(hr.opd hx).lit_inv,resolve,invoke,builtin,Builtin.len_,run_underlying hu,goInt]
theorem Stp.lenStr {T d:Nat}{x:Operand}{s:ByteArray}(ho:o.op=.call { callee:=.builtin .len,args:=#[x],argTypes:=#[T] })(hd:o.dst=some d)(hn:Nat.ble (d+1) C.n=true)
  (hx:σ.opd x=some (.s s)) (hT:strB P T=true):Stp P C o σ (σ.put d (.i .i64 s.size)):=by
 refine Stp.same hd hn fun φ a w hr=>?_
 refine⟨.int .i64 s.size,?_,.dat (.i _ _)⟩
 simp [execOp,ho,(hr.opd hx).s_inv,resolve,invoke,builtin,Builtin.len_,run_underlying (QpC hT),goInt]
end
end Go.Vm
