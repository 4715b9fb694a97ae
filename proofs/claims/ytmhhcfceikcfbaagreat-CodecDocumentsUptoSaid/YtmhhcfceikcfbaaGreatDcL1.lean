/- Walks: the law's bytes of numbers, texts, Booleans. -/
import Derived.Laws.IdiomStrings
import Derived.BigQuiet
import Derived.Test.YtmhhcfceikcfbaaGreatDcW1
namespace Go.Proofs.YtmhhcfceikcfbaaGreat
open Go.RowKit
set_option maxRecDepth 100000
set_option maxHeartbeats 4000000
def StrE (w:World) (L:List Nat) (e:Ending) (w':World):Prop:=e = .returned (.string (mkB L))∧Below w.heap.size w w'
theorem mkB_app (a b:List Nat):mkB a++mkB b = mkB (a++b):=by
 unfold mkB
 rw [List.map_append]
 apply ByteArray.ext
 simp
theorem mkB_size (a:List Nat):(mkB a).size = a.length:=by
 show (mkB a).data.size = _
 simp [mkB]
theorem addL (a b:List Nat) (h:a.length + b.length≤9223372036854775807) (w:World):(Op.stringOp .add (mkB a) (mkB b)).run Tryz.prog w = .ok (.string (mkB (a++b))) w:=by
 rw [<- mkB_app]
 exact run_string_add_sum w _ _ (by rw [mkB_size,mkB_size]; omega)
theorem conv_one (w:World) (y:Nat) (hy:y < 256):(convert 93 9 (.slice (some ⟨w.heap.size,0,none⟩) 1 1)).run Tryz.prog (w.alloc (.cells #[.int .u8 (y:Int)] 5)) = .ok (.string (mkB [y])) (w.alloc (.cells #[.int .u8 (y:Int)] 5)):=by
 have:=run_convert_bytes_back (P:=Tryz.prog) (w.alloc (.cells #[.int .u8 (y:Int)] 5)) 93 9 5 ⟨w.heap.size,0,none⟩ 1 [UInt8.ofNat y] Tryz.underlying93 Tryz.underlying5 Tryz.underlying9 (fun j hj => by
  have hj0:j = 0:=by simpa using hj
  subst hj0
  rw [addr_add,Nat.zero_add]
  have hc:=cells_new w [.int .u8 (y:Int)] 5 0 _ rfl
  rw [hc]
  simp [Nat.mod_eq_of_lt hy])
 exact this
theorem bm (n:Int) (hn:I64 n) (w:World):Calls Tryz.prog 16 #[.int .i64 n] w (StrE w (encN n)):=by
 obtain ⟨M,hM⟩:=gX (encN n)
 have hlen:M.length≤10:=by rw [hM]; exact encN_len hn
 have hz:=zz_lt hn
 have HM:Hid ([]++vb (zz n) = M):=qH (by rw [hM]; rfl)
 rw [<- hM]
 have e0:∃ u0:Nat,u0 = zz n∧(n < 0→bits .xor .u64 IntKind.u64.max (IntKind.u64.wrap (IntKind.u64.wrap n * 2)) = (u0:Int))∧(¬ n < 0→IntKind.u64.wrap (IntKind.u64.wrap n * 2) = (u0:Int)):=by
  unfold I64 at hn
  refine ⟨_,rfl,fun h => ?_,fun h => ?_⟩
  ·rw [Lib.zigzag_neg hn.1 h]
   unfold Lib.zigzag zz
   rw [if_neg (by omega),if_pos h]
  rw [IntKind.wrap_u64,IntKind.wrap_u64]
  unfold zz
  rw [if_neg h]
  omega
 obtain ⟨u0,hu0,e1,e2⟩:=e0
 rw [<- hu0] at hz HM
 clear hM hu0
 by_cases hneg:n < 0
 ·have e3:=e1 hneg
  have d0:decide (n < 0) = true:=by simpa using hneg
  clear e1 e2
  go_enter Tryz.func16,Tryz.ntmps16
  go_wp2_with fail
  go_loopw [3,4] (fun uv sv wr => ∃ (u:Nat) (L:List Nat),uv = .int .u64 (u:Int)∧sv = .string (mkB L)∧u < 18446744073709551616∧L.length≤10∧Hid (L++vb u = M)∧Below w.heap.size w wr) (fun uv _ _ => (intOf uv).toNat)
  case atStart => exact ⟨u0,[],rfl,rfl,hz,by simp,HM,Below.refl _ _⟩
  obtain ⟨u,L,rfl,rfl,hu,hL,HL,hb⟩:=hrel
  clear HM hz e3
  by_cases h128:u < 128
  ·have d1:decide ((128:Int)≤(u:Int)) = false:=by simp; omega
   have d2:¬ (128:Int)≤(u:Int):=by omega
   have f1:IntKind.u8.wrap (u:Int) = (u:Int):=by rw [IntKind.wrap_u8]; omega
   have kc:=conv_one wr u (by omega)
   have ka:=addL L [u] (by simp; omega)
   have HE:Hid (L++[u] = M):=qH (by rw [<- vb_small h128]; exact HL.out)
   go_wp2_with fail
   go_ret
   exact ⟨by rw [<- HE.out]; rfl,hb.alloc hb.size _⟩
  have d1:decide ((128:Int)≤(u:Int)) = true:=by simp; omega
  have d2:(128:Int)≤(u:Int):=by omega
  obtain ⟨q,hq⟩:=gX (u % 128)
  obtain ⟨y,hy⟩:=gX (q + 128)
  obtain ⟨u2,hu2⟩:=gX (u / 128)
  have f1:(u:Int) % 128 = (q:Int):=by omega
  have f2:(u:Int).tmod 128 = (q:Int):=by rw [Int.tmod_eq_emod_of_nonneg (by omega)]; exact f1
  have f3:IntKind.u8.wrap (q:Int) = (q:Int):=by rw [IntKind.wrap_u8]; omega
  have f4:IntKind.u8.wrap ((q:Int) + 128) = (y:Int):=by rw [IntKind.wrap_u8]; omega
  have f5:(u:Int) / 128 = (u2:Int):=by omega
  have f6:(u:Int).tdiv 128 = (u2:Int):=by rw [Int.tdiv_eq_ediv_of_nonneg (by omega)]; exact f5
  have kc:=conv_one wr y (by omega)
  have ka:=addL L [y] (by simp; omega)
  have HE:Hid ((L++[y])++vb u2 = M):=qH (by rw [<- HL.out,vb_big h128,hy,hq,hu2]; simp)
  have hl2:(L++[y]).length≤10:=by
   have h1:=congrArg List.length HE.out
   rw [List.length_append] at h1
   omega
  have hu3:u2 < u:=by omega
  clear hq hy hu2 HL
  go_wp2_with fail
  go_roundw
  case rel => exact ⟨u2,L++[y],rfl,rfl,by omega,hl2,HE,hb.alloc hb.size _⟩
  simp [intOf]; omega
 have e3:=e2 hneg
 have d0:decide (n < 0) = false:=by simpa using hneg
 clear e1 e2
 go_enter Tryz.func16,Tryz.ntmps16
 go_wp2_with fail
 go_loopw [3,4] (fun uv sv wr => ∃ (u:Nat) (L:List Nat),uv = .int .u64 (u:Int)∧sv = .string (mkB L)∧u < 18446744073709551616∧L.length≤10∧Hid (L++vb u = M)∧Below w.heap.size w wr) (fun uv _ _ => (intOf uv).toNat)
 case atStart => exact ⟨u0,[],rfl,rfl,hz,by simp,HM,Below.refl _ _⟩
 obtain ⟨u,L,rfl,rfl,hu,hL,HL,hb⟩:=hrel
 clear HM hz e3
 by_cases h128:u < 128
 ·have d1:decide ((128:Int)≤(u:Int)) = false:=by simp; omega
  have d2:¬ (128:Int)≤(u:Int):=by omega
  have f1:IntKind.u8.wrap (u:Int) = (u:Int):=by rw [IntKind.wrap_u8]; omega
  have kc:=conv_one wr u (by omega)
  have ka:=addL L [u] (by simp; omega)
  have HE:Hid (L++[u] = M):=qH (by rw [<- vb_small h128]; exact HL.out)
  go_wp2_with fail
  go_ret
  exact ⟨by rw [<- HE.out]; rfl,hb.alloc hb.size _⟩
 have d1:decide ((128:Int)≤(u:Int)) = true:=by simp; omega
 have d2:(128:Int)≤(u:Int):=by omega
 obtain ⟨q,hq⟩:=gX (u % 128)
 obtain ⟨y,hy⟩:=gX (q + 128)
 obtain ⟨u2,hu2⟩:=gX (u / 128)
 have f1:(u:Int) % 128 = (q:Int):=by omega
 have f2:(u:Int).tmod 128 = (q:Int):=by rw [Int.tmod_eq_emod_of_nonneg (by omega)]; exact f1
 have f3:IntKind.u8.wrap (q:Int) = (q:Int):=by rw [IntKind.wrap_u8]; omega
 have f4:IntKind.u8.wrap ((q:Int) + 128) = (y:Int):=by rw [IntKind.wrap_u8]; omega
 have f5:(u:Int) / 128 = (u2:Int):=by omega
 have f6:(u:Int).tdiv 128 = (u2:Int):=by rw [Int.tdiv_eq_ediv_of_nonneg (by omega)]; exact f5
 have kc:=conv_one wr y (by omega)
 have ka:=addL L [y] (by simp; omega)
 have HE:Hid ((L++[y])++vb u2 = M):=qH (by rw [<- HL.out,vb_big h128,hy,hq,hu2]; simp)
 have hl2:(L++[y]).length≤10:=by
  have h1:=congrArg List.length HE.out
  rw [List.length_append] at h1
  omega
 have hu3:u2 < u:=by omega
 clear hq hy hu2 HL
 go_wp2_with fail
 go_roundw
 case rel => exact ⟨u2,L++[y],rfl,rfl,by omega,hl2,HE,hb.alloc hb.size _⟩
 simp [intOf]; omega
end Go.Proofs.YtmhhcfceikcfbaaGreat
namespace Go.Proofs.YtmhhcfceikcfbaaGreat
open Go.RowKit
set_option maxRecDepth 100000
set_option maxHeartbeats 4000000
def Rdr (ty:TypeId) (r:Nat) (s:ByteArray) (k:Nat) (e:Int) (w:World):Prop:=w.heap[r]? = some (.cells #[.string s,.int .i64 (k:Int),.int .i64 e] ty (0,0))
theorem Rdr.cells {ty:TypeId} {r k:Nat} {s:ByteArray} {e:Int} {w:World} (h:Rdr ty r s k e w) :
  w.cell? ⟨r,0,none⟩ = some (.string s)∧w.cell? ⟨r,1,none⟩ = some (.int .i64 (k:Int))∧w.cell? ⟨r,2,none⟩ = some (.int .i64 e)∧w.frozen? ⟨r,1,none⟩ = false∧w.frozen? ⟨r,2,none⟩ = false :=
 ⟨aa h 0,aa h 1,aa h 2,blk_free h 1,blk_free h 2⟩
theorem Rdr.setAt {ty:TypeId} {r k:Nat} {s:ByteArray} {e:Int} {w:World} (h:Rdr ty r s k e w) (k':Nat):Rdr ty r s k' e (w.setCell ⟨r,1,none⟩ (.int .i64 (k':Int))) :=
 heap_setCell_same w r 1 #[.string s,.int .i64 (k:Int),.int .i64 e] ty (.int .i64 (k':Int)) h
theorem Rdr.setErr {ty:TypeId} {r k:Nat} {s:ByteArray} {e:Int} {w:World} (h:Rdr ty r s k e w) (e':Int):Rdr ty r s k e' (w.setCell ⟨r,2,none⟩ (.int .i64 e')) :=
 heap_setCell_same w r 2 #[.string s,.int .i64 (k:Int),.int .i64 e] ty (.int .i64 e') h
theorem grown_set (w:World) (g j:Nat) (u:Value):w.grownBy (w.setCell ⟨g,j,none⟩ u) (some g) :=
 ⟨rfl,rfl,rfl,by simp,fun k _ hk => heap_setCell_other w ⟨g,j,none⟩ k u (fun e => hk (by simp [e]))⟩
theorem aD {a b c:World} {row:Option Nat} (h:a.grownBy b row) (k:b.grownBy c row):a.grownBy c row :=
 ⟨k.os.trans h.os,k.tape.trans h.tape,k.output.trans h.output,Nat.le_trans h.size k.size,fun i hi hr => (k.block i (Nat.lt_of_lt_of_le hi h.size) hr).trans (h.block i hi hr)⟩
theorem bE {a b:World} {row:Option Nat} (h:a.grownBy b row) (n:Nat):a.grownBy (b.drewN n) row:=⟨h.os,h.tape,h.output,h.size,h.block⟩
theorem Rdr.drewN {ty:TypeId} {r k:Nat} {s:ByteArray} {e:Int} {w:World} (h:Rdr ty r s k e w) (n:Nat):Rdr ty r s k e (w.drewN n):=h
def Res {α:Type} (p:Rd α) (s:ByteArray) (k:Nat) (e:Int) (x:α) (k':Nat) (e':Int):Prop :=
 k'≤s.size∧(e≠0→e' = e)∧(e = 0→match p ((al s).drop k) with | .ok y n => x = y∧k' = k + n∧e' = 0 | .err E => e' = E∧E≠0)
theorem byte_at {s:ByteArray} {k:Nat} (h:k < s.size):(al s).drop k = s[k].toNat::(al s).drop (k + 1):=by
 have hl:k < (al s).length:=by rw [ap]; exact h
 rw [List.drop_eq_getElem_cons hl]
 congr 1
 simp [al]
 rfl
theorem fail97 (r k:Nat) (s:ByteArray) (E:Int) (w:World) (h:Rdr 99 r s k 0 w) :
  Calls Tryz.prog 97 #[.pointer (some ⟨r,0,none⟩),.int .i64 E] w fun e w' => e = .returned (.tuple #[])∧Rdr 99 r s k E w'∧w.grownBy w' (some r):=by
 obtain ⟨c0,c1,c2,f1,f2⟩:=h.cells
 have HS:=qH (h.setErr E)
 clear h
 go_enter Tryz.func97,Tryz.ntmps97
 go_wp2_with fail
 go_end0
 exact ⟨rfl,HS.out,grown_set _ _ _ _⟩
theorem fail97_no (r k:Nat) (s:ByteArray) (e0 E:Int) (w:World) (h:Rdr 99 r s k e0 w) (he:e0≠0) :
  Calls Tryz.prog 97 #[.pointer (some ⟨r,0,none⟩),.int .i64 E] w fun e w' => e = .returned (.tuple #[])∧w = w':=by
 obtain ⟨c0,c1,c2,f1,f2⟩:=h.cells
 have d0:(e0 == 0) = false:=by simpa using he
 clear h
 go_enter Tryz.func97,Tryz.ntmps97
 go_wp2_with fail
 go_end0
 exact ⟨rfl,rfl⟩
def NumS (s:ByteArray) (k0:Nat) (R:Rs Int) (i u k:Nat):Prop:=k = k0 + i∧R = ((rdV i u ((al s).drop k)).more i).map unzz
theorem dig_or {u v i:Nat} (hu:u < 128 ^ i) (_hv:v < 128) (hs:u + v * 128 ^ i < 18446744073709551616) :
  IntKind.u64.wrap ((v:Int) * 2 ^ (7 * i)) = ((v * 128 ^ i:Nat):Int)∧bits .or .u64 (u:Int) ((v * 128 ^ i:Nat):Int) = ((u + v * 128 ^ i:Nat):Int):=by
 have hp:(128:Nat) ^ i = 2 ^ (7 * i):=by rw [Nat.pow_mul]
 have hc:(v:Int) * 2 ^ (7 * i) = ((v * 128 ^ i:Nat):Int):=by rw [hp]; push_cast; rfl
 refine ⟨by rw [hc,IntKind.wrap_u64]; omega,?_⟩
 rw [bits_or_u64_nat _ _ (by omega) (by omega)]
 congr 1
 have:=Nat.two_pow_add_eq_or_of_lt (i:=7 * i) (b:=u) (by rw [<- hp]; exact hu) v
 rw [hp] at *
 rw [Nat.or_comm,Nat.mul_comm v,<- this,Nat.add_comm]
theorem rdV_bad {i u b:Nat} {r:List Nat} (h:(i = 9∧1 < b)∨(0 < i∧b = 0)):rdV i u (b::r) = .err 15:=by rw [rdV,if_pos h]
theorem rdV_last {i u b:Nat} {r:List Nat} (h:¬ ((i = 9∧1 < b)∨(0 < i∧b = 0))) (hb:b < 128):rdV i u (b::r) = .ok (u + b * 128 ^ i) 1:=by rw [rdV,if_neg h,if_pos hb]
theorem rdV_more {i u b:Nat} {r:List Nat} (h:¬ ((i = 9∧1 < b)∨(0 < i∧b = 0))) (hb:¬ b < 128):rdV i u (b::r) = (rdV (i + 1) (u + (b - 128) * 128 ^ i) r).more 1:=by rw [rdV,if_neg h,if_neg hb]
theorem pow_le9 {i:Nat} (h:i≤8):(128:Nat) ^ i * 128≤9223372036854775808:=by
 have:(128:Nat) ^ (i + 1)≤128 ^ 9:=Nat.pow_le_pow_right (by decide) (by omega)
 rw [Nat.pow_succ] at this
 omega
theorem dig_lt {u b i:Nat} (hu:u < 128 ^ i) (hi:i≤9) (hb:b < 256) (hg:¬ ((i = 9∧1 < b)∨(0 < i∧b = 0))):u + b % 128 * 128 ^ i < 18446744073709551616∧(i < 9→u + b % 128 * 128 ^ i < 128 ^ (i + 1)):=by
 by_cases h9:i = 9
 ·subst h9
  have:b≤1:=by
   rcases Nat.lt_or_ge 1 b with h | h
   ·exact absurd (.inl ⟨rfl,h⟩) hg
   exact h
  have h2:b % 128 = b:=Nat.mod_eq_of_lt (by omega)
  rw [h2]
  have:=Nat.mul_le_mul_right (128 ^ 9) this
  refine ⟨by omega,fun h => by omega⟩
 have h1:b % 128≤127:=by omega
 have h2:=Nat.mul_le_mul_right (128 ^ i) h1
 have h3:=pow_le9 (i:=i) (by omega)
 rw [Nat.pow_succ]
 refine ⟨by omega,fun _ => by omega⟩
theorem unzz_even {u:Nat} (h:u % 2 = 0):unzz u = ((u / 2:Nat):Int):=by unfold unzz; rw [if_neg (by omega)]
theorem unzz_odd {u:Nat} (h:u % 2 = 1):unzz u = -((u / 2:Nat):Int) - 1:=by unfold unzz; rw [if_pos h]
theorem xor_zero64 (h:Nat) (hh:h < 9223372036854775808):bits .xor .i64 (h:Int) 0 = (h:Int):=by
 show IntKind.i64.wrap ((BitVec.ofInt 64 (h:Int) ^^^ BitVec.ofInt 64 0).toNat:Int) = _
 have h2:(BitVec.ofInt 64 (h:Int)).toNat = h:=by
  rw [BitVec.ofInt_natCast,BitVec.toNat_ofNat]; exact Nat.mod_eq_of_lt (by omega)
 have h1:(BitVec.ofInt 64 0).toNat = 0:=by decide
 rw [BitVec.toNat_xor,h1,h2,Nat.xor_zero,IntKind.wrap_i64]
 omega
theorem xor_ones (h:Nat) (hh:h < 9223372036854775808):bits .xor .i64 (h:Int) (-1) = -(h:Int) - 1:=by
 rw [<- Lib.i64_not h hh]
 show IntKind.i64.wrap ((BitVec.ofInt 64 (h:Int) ^^^ BitVec.ofInt 64 (-1)).toNat:Int) = IntKind.i64.wrap ((BitVec.ofInt 64 (-1) ^^^ BitVec.ofInt 64 (h:Int)).toNat:Int)
 rw [BitVec.xor_comm]
end Go.Proofs.YtmhhcfceikcfbaaGreat
namespace Go.Proofs.YtmhhcfceikcfbaaGreat
open Go.RowKit
set_option maxRecDepth 100000
set_option maxHeartbeats 4000000
theorem number43 (r k0:Nat) (s:ByteArray) (w:World) (h:Rdr 99 r s k0 0 w) (hk:k0≤s.size) (hs:s.size≤1099511627776) :
    Calls Tryz.prog 43 #[.pointer (some ⟨r,0,none⟩)] w fun e w' => ∃ x k' e',e = .returned (.int .i64 x)∧I64 x∧Rdr 99 r s k' e' w'∧w.grownBy w' (some r)∧Res rdN s k0 0 x k' e':=by
  obtain ⟨R,hR⟩:=gX (rdN ((al s).drop k0))
  have HN0:Hid (NumS s k0 R 0 0 k0):=qH ⟨rfl,by rw [hR]; unfold rdN; cases rdV 0 0 ((al s).drop k0) <;> simp [Rs.more]⟩
  have HRR:=qH hR
  have H0:Hid (Rdr 99 r s k0 0 w∧w.grownBy w (some r)):=qH ⟨h,aQ _ _⟩
  clear hR h
  go_enter Tryz.func43,Tryz.ntmps43
  go_wp2_with fail
  go_loopw [3,4] (fun uv iv wr => ∃ u i k:Nat,uv = .int .u64 (u:Int)∧iv = .int .i64 (i:Int)∧i≤9∧k≤s.size∧u < 128 ^ i∧Hid (NumS s k0 R i u k)∧Hid (Rdr 99 r s k 0 wr∧w.grownBy wr (some r))) (fun _ iv _ => 20 - (intOf iv).toNat)
  case atStart => exact ⟨0,0,k0,rfl,rfl,by omega,hk,by decide,HN0,H0⟩
  obtain ⟨u,i,k,rfl,rfl,hi,hks,hu,HN,HR⟩:=hrel
  clear HN0 H0
  obtain ⟨c0,c1,c2,f1,f2⟩:=HR.out.1.cells
  by_cases hend:k < s.size
  · have d1:decide ((s.size:Int)≤(k:Int)) = false:=by simp; omega
    have d2:¬ (s.size:Int)≤(k:Int):=by omega
    have d3:(k:Int) < (s.size:Int):=by omega
    go_wp2_with fail
    go_quiet (fail)
    go_wp2_with fail
    go_quiet (fail)
    obtain ⟨kk,hkk⟩:=gX (k + 1)
    have HR2:=qH (fun n:Nat => (HR.out.1.drewN n).setAt kk)
    have HG2:=qH (fun n:Nat => aD (bE HR.out.2 n) (grown_set (wr.drewN n) r 1 (.int .i64 (kk:Int))))
    obtain ⟨b,hb⟩:∃ b,s[k].toNat = b:=⟨_,rfl⟩
    have hb2:b < 256:=by rw [<- hb]; exact s[k].toNat_lt
    have HD:Hid ((al s).drop k = b::(al s).drop kk):=qH (by rw [byte_at hend,hb,hkk])
    have ek:IntKind.i64.wrap ((k:Int) + 1) = (kk:Int):=by rw [IntWalk.i64_in _ (by omega)]; omega
    have hkks:kk≤s.size:=by omega
    have HKK:=qH hkk
    have em:IntKind.i64.wrap (7 * (i:Int)) = 7 * (i:Int):=IntWalk.i64_in _ (by omega)
    have ei:IntKind.i64.wrap ((i:Int) + 1) = ((i:Int) + 1):=IntWalk.i64_in _ (by omega)
    clear HR hkk
    by_cases h9:i = 9
    · have e9:((i:Int) == 9) = true:=by simp; omega
      have e9':(i:Int) = 9:=by omega
      have e0:decide ((0:Int) < (i:Int)) = true:=by simp; omega
      by_cases hb1:1 < b
      · have eb:decide ((1:Int) < (b:Int)) = true:=by simp; omega
        have hbad:(i = 9∧1 < b)∨(0 < i∧b = 0):=.inl ⟨h9,hb1⟩
        clear e9'
        have HBAD:Hid (rdV i u (b::(al s).drop kk) = .err 15):=qH (rdV_bad hbad)
        have HF:=qH (fun n:Nat => fail97 r kk s 15 _ (HR2.out n))
        clear HR2
        go_wp2_with fail
        refine ((HF.out _).mono ?_)
        rintro e w2 ⟨rfl,hr2,hg2⟩
        have HR3:=qH hr2
        clear hr2
        go_wp2_with fail
        go_ret
        refine ⟨0,kk,15,rfl,by unfold I64; omega,HR3.out,aD (HG2.out _) hg2,hkks,fun h => absurd rfl h,fun _ => ?_⟩
        rw [<- HRR.out,HN.out.2,HD.out,HBAD.out]
        simp [Rs.more,Rs.map]
      have eb:decide ((1:Int) < (b:Int)) = false:=by simp; omega
      by_cases hb0:b = 0
      · have eb0:((b:Int) == 0) = true:=by simp; omega
        have hbad:(i = 9∧1 < b)∨(0 < i∧b = 0):=.inr ⟨by omega,hb0⟩
        have HB0:=qH hb0
        clear e9' hb0
        have HBAD:Hid (rdV i u (b::(al s).drop kk) = .err 15):=qH (rdV_bad hbad)
        have HF:=qH (fun n:Nat => fail97 r kk s 15 _ (HR2.out n))
        clear HR2
        go_wp2_with fail
        refine ((HF.out _).mono ?_)
        rintro e w2 ⟨rfl,hr2,hg2⟩
        have HR3:=qH hr2
        clear hr2
        go_wp2_with fail
        go_ret
        refine ⟨0,kk,15,rfl,by unfold I64; omega,HR3.out,aD (HG2.out _) hg2,hkks,fun h => absurd rfl h,fun _ => ?_⟩
        rw [<- HRR.out,HN.out.2,HD.out,HBAD.out]
        simp [Rs.more,Rs.map]
      have eb0:((b:Int) == 0) = false:=by simp; omega
      have hgood:¬ ((i = 9∧1 < b)∨(0 < i∧b = 0)):=by omega
      clear e9'
      obtain ⟨hlt1,hlt2⟩:=dig_lt hu hi hb2 hgood
      obtain ⟨v,hv⟩:=gX (b % 128)
      rw [<- hv] at hlt1 hlt2
      obtain ⟨g3,g4⟩:=dig_or hu (v:=v) (by omega) hlt1
      have g1:bits .and .u8 (b:Int) 127 = (v:Int):=by rw [u8_and127 (b:Int) (by omega) (by omega)]; omega
      have g2:IntKind.u64.wrap (v:Int) = (v:Int):=by rw [IntKind.wrap_u64]; omega
      obtain ⟨u2,hu2⟩:=gX (u + v * 128 ^ i)
      rw [<- hu2] at g4 hlt1 hlt2
      obtain ⟨z,hz⟩:=gX (v * 128 ^ i)
      rw [<- hz] at g3 g4
      have g3':IntKind.u64.wrap ((v:Int) * 9223372036854775808) = (z:Int):=by
        have q:=g3
        rw [h9] at q
        exact q
      by_cases h128:b < 128
      · have e128:decide ((b:Int) < 128) = true:=by simp; omega
        have e129:(b:Int) < 128:=by omega
        have HL:Hid (rdV i u (b::(al s).drop kk) = .ok u2 1):=qH (by rw [rdV_last hgood h128,hu2,hv,Nat.mod_eq_of_lt h128])
        obtain ⟨hf,hhf⟩:=gX (u2 / 2)
        have p0:(u2:Int) / 2 = (hf:Int):=by omega
        by_cases hpar:u2 % 2 = 0
        · have HX:Hid (unzz u2 = (hf:Int)):=qH (by rw [unzz_even hpar,<- hhf])
          have HI:Hid (I64 (hf:Int)):=qH (by unfold I64; omega)
          have hh:hf < 9223372036854775808:=by omega
          have hr:-9223372036854775808≤(hf:Int)∧(hf:Int)≤9223372036854775807:=by omega
          have p1:bits .and .u64 (u2:Int) 1 = 0:=by rw [Lib.u64_and1 (u2:Int) (by omega) (by omega)]; omega
          have p5:bits .xor .i64 (hf:Int) 0 = (hf:Int):=xor_zero64 hf hh
          have p2:RowKit.wrap64 (hf:Int) = (hf:Int):=IntWalk.wrap64_in _ hr
          have p3:IntKind.i64.wrap (hf:Int) = (hf:Int):=IntWalk.i64_in _ hr
          clear hv hz hu2 hhf hgood hh hr
          go_wp2_with fail
          go_ret
          first
            | refine ⟨_,kk,0,rfl,HI.out,HR2.out _,HG2.out _,hkks,fun h => absurd rfl h,fun _ => ?_⟩
            | refine ⟨_,rfl,HI.out,kk,0,HR2.out _,HG2.out _,hkks,fun h => absurd rfl h,fun _ => ?_⟩
          rw [<- HRR.out,HN.out.2,HD.out,HL.out]
          refine ⟨HX.out.symm,?_,rfl⟩
          have q1:=HN.out.1
          have q2:=HKK.out
          clear p1 p2 p3
          omega
        have HX:Hid (unzz u2 = (-(hf:Int) - 1)):=qH (by rw [unzz_odd (by omega),<- hhf])
        have HI:Hid (I64 (-(hf:Int) - 1)):=qH (by unfold I64; omega)
        have hh:hf < 9223372036854775808:=by omega
        have hr:-9223372036854775808≤(hf:Int)∧(hf:Int)≤9223372036854775807:=by omega
        have p1:bits .and .u64 (u2:Int) 1 = 1:=by rw [Lib.u64_and1 (u2:Int) (by omega) (by omega)]; omega
        have p5:bits .xor .i64 (hf:Int) (-1) = -(hf:Int) - 1:=xor_ones hf hh
        have p2:RowKit.wrap64 (hf:Int) = (hf:Int):=IntWalk.wrap64_in _ hr
        have p3:IntKind.i64.wrap (hf:Int) = (hf:Int):=IntWalk.i64_in _ hr
        clear hv hz hu2 hhf hgood hh hr
        go_wp2_with fail
        go_ret
        first
          | refine ⟨_,kk,0,rfl,HI.out,HR2.out _,HG2.out _,hkks,fun h => absurd rfl h,fun _ => ?_⟩
          | refine ⟨_,rfl,HI.out,kk,0,HR2.out _,HG2.out _,hkks,fun h => absurd rfl h,fun _ => ?_⟩
        rw [<- HRR.out,HN.out.2,HD.out,HL.out]
        refine ⟨HX.out.symm,?_,rfl⟩
        have q1:=HN.out.1
        have q2:=HKK.out
        clear p1 p2 p3
        omega
      exact absurd h128 (by omega)
    have e9:((i:Int) == 9) = false:=by simp; omega
    have hi8:i≤8:=by omega
    by_cases h0:0 < i
    · have e0:decide ((0:Int) < (i:Int)) = true:=by simp; omega
      by_cases hb0:b = 0
      · have eb0:((b:Int) == 0) = true:=by simp; omega
        have hbad:(i = 9∧1 < b)∨(0 < i∧b = 0):=.inr ⟨h0,hb0⟩
        have HB0:=qH hb0
        clear hb0
        have HBAD:Hid (rdV i u (b::(al s).drop kk) = .err 15):=qH (rdV_bad hbad)
        have HF:=qH (fun n:Nat => fail97 r kk s 15 _ (HR2.out n))
        clear HR2
        go_wp2_with fail
        refine ((HF.out _).mono ?_)
        rintro e w2 ⟨rfl,hr2,hg2⟩
        have HR3:=qH hr2
        clear hr2
        go_wp2_with fail
        go_ret
        refine ⟨0,kk,15,rfl,by unfold I64; omega,HR3.out,aD (HG2.out _) hg2,hkks,fun h => absurd rfl h,fun _ => ?_⟩
        rw [<- HRR.out,HN.out.2,HD.out,HBAD.out]
        simp [Rs.more,Rs.map]
      have eb0:((b:Int) == 0) = false:=by simp; omega
      have hgood:¬ ((i = 9∧1 < b)∨(0 < i∧b = 0)):=by omega
      obtain ⟨hlt1,hlt2⟩:=dig_lt hu hi hb2 hgood
      obtain ⟨v,hv⟩:=gX (b % 128)
      rw [<- hv] at hlt1 hlt2
      obtain ⟨g3,g4⟩:=dig_or hu (v:=v) (by omega) hlt1
      have g1:bits .and .u8 (b:Int) 127 = (v:Int):=by rw [u8_and127 (b:Int) (by omega) (by omega)]; omega
      have g2:IntKind.u64.wrap (v:Int) = (v:Int):=by rw [IntKind.wrap_u64]; omega
      obtain ⟨u2,hu2⟩:=gX (u + v * 128 ^ i)
      rw [<- hu2] at g4 hlt1 hlt2
      obtain ⟨z,hz⟩:=gX (v * 128 ^ i)
      rw [<- hz] at g3 g4
      by_cases h128:b < 128
      · have e128:decide ((b:Int) < 128) = true:=by simp; omega
        have e129:(b:Int) < 128:=by omega
        have HL:Hid (rdV i u (b::(al s).drop kk) = .ok u2 1):=qH (by rw [rdV_last hgood h128,hu2,hv,Nat.mod_eq_of_lt h128])
        obtain ⟨hf,hhf⟩:=gX (u2 / 2)
        have p0:(u2:Int) / 2 = (hf:Int):=by omega
        by_cases hpar:u2 % 2 = 0
        · have HX:Hid (unzz u2 = (hf:Int)):=qH (by rw [unzz_even hpar,<- hhf])
          have HI:Hid (I64 (hf:Int)):=qH (by unfold I64; omega)
          have hh:hf < 9223372036854775808:=by omega
          have hr:-9223372036854775808≤(hf:Int)∧(hf:Int)≤9223372036854775807:=by omega
          have p1:bits .and .u64 (u2:Int) 1 = 0:=by rw [Lib.u64_and1 (u2:Int) (by omega) (by omega)]; omega
          have p5:bits .xor .i64 (hf:Int) 0 = (hf:Int):=xor_zero64 hf hh
          have p2:RowKit.wrap64 (hf:Int) = (hf:Int):=IntWalk.wrap64_in _ hr
          have p3:IntKind.i64.wrap (hf:Int) = (hf:Int):=IntWalk.i64_in _ hr
          clear hv hz hu2 hhf hgood hh hr
          go_wp2_with fail
          go_ret
          first
            | refine ⟨_,kk,0,rfl,HI.out,HR2.out _,HG2.out _,hkks,fun h => absurd rfl h,fun _ => ?_⟩
            | refine ⟨_,rfl,HI.out,kk,0,HR2.out _,HG2.out _,hkks,fun h => absurd rfl h,fun _ => ?_⟩
          rw [<- HRR.out,HN.out.2,HD.out,HL.out]
          refine ⟨HX.out.symm,?_,rfl⟩
          have q1:=HN.out.1
          have q2:=HKK.out
          clear p1 p2 p3
          omega
        have HX:Hid (unzz u2 = (-(hf:Int) - 1)):=qH (by rw [unzz_odd (by omega),<- hhf])
        have HI:Hid (I64 (-(hf:Int) - 1)):=qH (by unfold I64; omega)
        have hh:hf < 9223372036854775808:=by omega
        have hr:-9223372036854775808≤(hf:Int)∧(hf:Int)≤9223372036854775807:=by omega
        have p1:bits .and .u64 (u2:Int) 1 = 1:=by rw [Lib.u64_and1 (u2:Int) (by omega) (by omega)]; omega
        have p5:bits .xor .i64 (hf:Int) (-1) = -(hf:Int) - 1:=xor_ones hf hh
        have p2:RowKit.wrap64 (hf:Int) = (hf:Int):=IntWalk.wrap64_in _ hr
        have p3:IntKind.i64.wrap (hf:Int) = (hf:Int):=IntWalk.i64_in _ hr
        clear hv hz hu2 hhf hgood hh hr
        go_wp2_with fail
        go_ret
        first
          | refine ⟨_,kk,0,rfl,HI.out,HR2.out _,HG2.out _,hkks,fun h => absurd rfl h,fun _ => ?_⟩
          | refine ⟨_,rfl,HI.out,kk,0,HR2.out _,HG2.out _,hkks,fun h => absurd rfl h,fun _ => ?_⟩
        rw [<- HRR.out,HN.out.2,HD.out,HL.out]
        refine ⟨HX.out.symm,?_,rfl⟩
        have q1:=HN.out.1
        have q2:=HKK.out
        clear p1 p2 p3
        omega
      skip
      have e128:decide ((b:Int) < 128) = false:=by simp; omega
      have e129:¬ (b:Int) < 128:=by omega
      have HN2:Hid (NumS s k0 R (i + 1) u2 kk):=qH ⟨by rw [HKK.out,HN.out.1]; omega,by rw [HN.out.2,HD.out,rdV_more hgood h128,Rs.more_more,hu2,hv,show b % 128 = b - 128 by omega]⟩
      have hlt3:=hlt2 (by omega)
      clear hv hz hu2 hgood
      go_wp2_with fail
      first
        | exact ⟨⟨u2,i + 1,kk,rfl,by go_num,by omega,hkks,hlt3,HN2,qH ⟨HR2.out _,HG2.out _⟩⟩,by simp [intOf]; omega⟩
        | (go_roundw
           case rel => exact ⟨u2,i + 1,kk,rfl,by go_num,by omega,hkks,hlt3,HN2,qH ⟨HR2.out _,HG2.out _⟩⟩
           simp [intOf]; omega)
    have e0:decide ((0:Int) < (i:Int)) = false:=by simp; omega
    have hgood:¬ ((i = 9∧1 < b)∨(0 < i∧b = 0)):=by omega
    obtain ⟨hlt1,hlt2⟩:=dig_lt hu hi hb2 hgood
    obtain ⟨v,hv⟩:=gX (b % 128)
    rw [<- hv] at hlt1 hlt2
    obtain ⟨g3,g4⟩:=dig_or hu (v:=v) (by omega) hlt1
    have g1:bits .and .u8 (b:Int) 127 = (v:Int):=by rw [u8_and127 (b:Int) (by omega) (by omega)]; omega
    have g2:IntKind.u64.wrap (v:Int) = (v:Int):=by rw [IntKind.wrap_u64]; omega
    obtain ⟨u2,hu2⟩:=gX (u + v * 128 ^ i)
    rw [<- hu2] at g4 hlt1 hlt2
    obtain ⟨z,hz⟩:=gX (v * 128 ^ i)
    rw [<- hz] at g3 g4
    by_cases h128:b < 128
    · have e128:decide ((b:Int) < 128) = true:=by simp; omega
      have e129:(b:Int) < 128:=by omega
      have HL:Hid (rdV i u (b::(al s).drop kk) = .ok u2 1):=qH (by rw [rdV_last hgood h128,hu2,hv,Nat.mod_eq_of_lt h128])
      obtain ⟨hf,hhf⟩:=gX (u2 / 2)
      have p0:(u2:Int) / 2 = (hf:Int):=by omega
      by_cases hpar:u2 % 2 = 0
      · have HX:Hid (unzz u2 = (hf:Int)):=qH (by rw [unzz_even hpar,<- hhf])
        have HI:Hid (I64 (hf:Int)):=qH (by unfold I64; omega)
        have hh:hf < 9223372036854775808:=by omega
        have hr:-9223372036854775808≤(hf:Int)∧(hf:Int)≤9223372036854775807:=by omega
        have p1:bits .and .u64 (u2:Int) 1 = 0:=by rw [Lib.u64_and1 (u2:Int) (by omega) (by omega)]; omega
        have p5:bits .xor .i64 (hf:Int) 0 = (hf:Int):=xor_zero64 hf hh
        have p2:RowKit.wrap64 (hf:Int) = (hf:Int):=IntWalk.wrap64_in _ hr
        have p3:IntKind.i64.wrap (hf:Int) = (hf:Int):=IntWalk.i64_in _ hr
        clear hv hz hu2 hhf hgood hh hr
        go_wp2_with fail
        go_ret
        first
          | refine ⟨_,kk,0,rfl,HI.out,HR2.out _,HG2.out _,hkks,fun h => absurd rfl h,fun _ => ?_⟩
          | refine ⟨_,rfl,HI.out,kk,0,HR2.out _,HG2.out _,hkks,fun h => absurd rfl h,fun _ => ?_⟩
        rw [<- HRR.out,HN.out.2,HD.out,HL.out]
        refine ⟨HX.out.symm,?_,rfl⟩
        have q1:=HN.out.1
        have q2:=HKK.out
        clear p1 p2 p3
        omega
      have HX:Hid (unzz u2 = (-(hf:Int) - 1)):=qH (by rw [unzz_odd (by omega),<- hhf])
      have HI:Hid (I64 (-(hf:Int) - 1)):=qH (by unfold I64; omega)
      have hh:hf < 9223372036854775808:=by omega
      have hr:-9223372036854775808≤(hf:Int)∧(hf:Int)≤9223372036854775807:=by omega
      have p1:bits .and .u64 (u2:Int) 1 = 1:=by rw [Lib.u64_and1 (u2:Int) (by omega) (by omega)]; omega
      have p5:bits .xor .i64 (hf:Int) (-1) = -(hf:Int) - 1:=xor_ones hf hh
      have p2:RowKit.wrap64 (hf:Int) = (hf:Int):=IntWalk.wrap64_in _ hr
      have p3:IntKind.i64.wrap (hf:Int) = (hf:Int):=IntWalk.i64_in _ hr
      clear hv hz hu2 hhf hgood hh hr
      go_wp2_with fail
      go_ret
      first
        | refine ⟨_,kk,0,rfl,HI.out,HR2.out _,HG2.out _,hkks,fun h => absurd rfl h,fun _ => ?_⟩
        | refine ⟨_,rfl,HI.out,kk,0,HR2.out _,HG2.out _,hkks,fun h => absurd rfl h,fun _ => ?_⟩
      rw [<- HRR.out,HN.out.2,HD.out,HL.out]
      refine ⟨HX.out.symm,?_,rfl⟩
      have q1:=HN.out.1
      have q2:=HKK.out
      clear p1 p2 p3
      omega
    skip
    have e128:decide ((b:Int) < 128) = false:=by simp; omega
    have e129:¬ (b:Int) < 128:=by omega
    have HN2:Hid (NumS s k0 R (i + 1) u2 kk):=qH ⟨by rw [HKK.out,HN.out.1]; omega,by rw [HN.out.2,HD.out,rdV_more hgood h128,Rs.more_more,hu2,hv,show b % 128 = b - 128 by omega]⟩
    have hlt3:=hlt2 (by omega)
    clear hv hz hu2 hgood
    go_wp2_with fail
    first
      | exact ⟨⟨u2,i + 1,kk,rfl,by go_num,by omega,hkks,hlt3,HN2,qH ⟨HR2.out _,HG2.out _⟩⟩,by simp [intOf]; omega⟩
      | (go_roundw
         case rel => exact ⟨u2,i + 1,kk,rfl,by go_num,by omega,hkks,hlt3,HN2,qH ⟨HR2.out _,HG2.out _⟩⟩
         simp [intOf]; omega)
  have d1:decide ((s.size:Int)≤(k:Int)) = true:=by simp; omega
  have d2:(s.size:Int)≤(k:Int):=by omega
  have hks2:k = s.size:=by omega
  go_wp2_with fail
  go_quiet (fail)
  have HF:=qH (fail97 r k s 34 (wr.drewN nq) (HR.out.1.drewN nq))
  have HG:=qH (bE HR.out.2 nq)
  clear HR c0 c1 c2 f1 f2
  go_wp2_with fail
  refine HF.out.mono ?_
  rintro e w2 ⟨rfl,hr2,hg2⟩
  have HR2:=qH hr2
  clear HF hr2
  go_wp2_with fail
  go_ret
  refine ⟨0,k,34,rfl,by unfold I64; omega,HR2.out,aD HG.out hg2,by omega,fun h => absurd rfl h,fun _ => ?_⟩
  rw [<- HRR.out,HN.out.2,List.drop_eq_nil_of_le (by rw [ap]; omega)]
  simp [rdV,Rs.more,Rs.map]
end Go.Proofs.YtmhhcfceikcfbaaGreat
