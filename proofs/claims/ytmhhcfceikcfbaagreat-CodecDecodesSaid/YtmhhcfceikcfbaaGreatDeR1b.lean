/- Walks: the readers' numbers. -/
import Derived.Test.YtmhhcfceikcfbaaGreatDeW1
namespace Go.Proofs.YtmhhcfceikcfbaaGreat
open Go.RowKit
set_option maxRecDepth 100000
set_option maxHeartbeats 4000000
theorem number43 (r k0:Nat) (s:ByteArray) (w:World) (h:Rdr 99 r s k0 0 w) (hk:k0≤s.size) (hs:s.size≤1099511627776) :
    Calls Tryz.prog 43 #[.pointer (some ⟨r,0,none⟩)] w fun e w' => ∃ x k' e',e = .returned (.int .i64 x)∧I64 x∧Rdr 99 r s k' e' w'∧w.grownBy w' (some r)∧Res rdN s k0 0 x k' e':=by
  obtain ⟨R,hR⟩:=gX (rdN ((al s).drop k0))
  have HN0:Hid (NumS s k0 R 0 0 k0):=qH ⟨rfl,by rw [hR]; unfold rdN; cases rdV 0 0 ((al s).drop k0) <;> simp [Rs.more]⟩
  have HRR:=qH hR
  have H0:Hid (Rdr 99 r s k0 0 w∧w.grownBy w (some r)):=qH ⟨h,av _ _⟩
  clear hR h
  go_enter Tryz.func43,Tryz.ntmps43
  go_wp2_with fail
  go_loopw [3,4] (fun uv iv wr => ∃ u i k:Nat,uv = .int .u64 (u:Int)∧iv = .int .i64 (i:Int)∧i≤9∧k≤s.size∧u < 128 ^ i∧Hid (NumS s k0 R i u k)∧Hid (Rdr 99 r s k 0 wr∧w.grownBy wr (some r))) (fun _ iv _ => 20 - (intOf iv).toNat)
  case atStart => exact ⟨0,0,k0,rfl,rfl,by omega,hk,by decide,HN0,H0⟩
  obtain ⟨u,i,k,rfl,rfl,hi,hks,hu,HN,HR⟩:=hrel
  clear HN0 H0
  obtain ⟨c0,c1,c2,f1,f2⟩:=HR.out.1.cells
  by_cases hend:k < s.size
  · have d1:decide ((s.size:Int)≤(k:Int)) = false:=by simp; omega
    have d2:¬ (s.size:Int)≤(k:Int):=by omega
    have d3:(k:Int) < (s.size:Int):=by omega
    go_wp2_with fail
    go_quiet (fail)
    go_wp2_with fail
    go_quiet (fail)
    obtain ⟨kk,hkk⟩:=gX (k + 1)
    have HR2:=qH (fun n:Nat => (HR.out.1.drewN n).setAt kk)
    have HG2:=qH (fun n:Nat => an (aZ HR.out.2 n) (grown_set (wr.drewN n) r 1 (.int .i64 (kk:Int))))
    obtain ⟨b,hb⟩:∃ b,s[k].toNat = b:=⟨_,rfl⟩
    have hb2:b < 256:=by rw [<- hb]; exact s[k].toNat_lt
    have HD:Hid ((al s).drop k = b::(al s).drop kk):=qH (by rw [byte_at hend,hb,hkk])
    have ek:IntKind.i64.wrap ((k:Int) + 1) = (kk:Int):=by rw [IntWalk.i64_in _ (by omega)]; omega
    have hkks:kk≤s.size:=by omega
    have HKK:=qH hkk
    have em:IntKind.i64.wrap (7 * (i:Int)) = 7 * (i:Int):=IntWalk.i64_in _ (by omega)
    have ei:IntKind.i64.wrap ((i:Int) + 1) = ((i:Int) + 1):=IntWalk.i64_in _ (by omega)
    clear HR hkk
    by_cases h9:i = 9
    · have e9:((i:Int) == 9) = true:=by simp; omega
      have e9':(i:Int) = 9:=by omega
      have e0:decide ((0:Int) < (i:Int)) = true:=by simp; omega
      by_cases hb1:1 < b
      · have eb:decide ((1:Int) < (b:Int)) = true:=by simp; omega
        have hbad:(i = 9∧1 < b)∨(0 < i∧b = 0):=.inl ⟨h9,hb1⟩
        clear e9'
        have HBAD:Hid (rdV i u (b::(al s).drop kk) = .err 15):=qH (rdV_bad hbad)
        have HF:=qH (fun n:Nat => fail97 r kk s 15 _ (HR2.out n))
        clear HR2
        go_wp2_with fail
        refine ((HF.out _).mono ?_)
        rintro e w2 ⟨rfl,hr2,hg2⟩
        have HR3:=qH hr2
        clear hr2
        go_wp2_with fail
        go_ret
        refine ⟨0,kk,15,rfl,by unfold I64; omega,HR3.out,an (HG2.out _) hg2,hkks,fun h => absurd rfl h,fun _ => ?_⟩
        rw [<- HRR.out,HN.out.2,HD.out,HBAD.out]
        simp [Rs.more,Rs.map]
      have eb:decide ((1:Int) < (b:Int)) = false:=by simp; omega
      by_cases hb0:b = 0
      · have eb0:((b:Int) == 0) = true:=by simp; omega
        have hbad:(i = 9∧1 < b)∨(0 < i∧b = 0):=.inr ⟨by omega,hb0⟩
        have HB0:=qH hb0
        clear e9' hb0
        have HBAD:Hid (rdV i u (b::(al s).drop kk) = .err 15):=qH (rdV_bad hbad)
        have HF:=qH (fun n:Nat => fail97 r kk s 15 _ (HR2.out n))
        clear HR2
        go_wp2_with fail
        refine ((HF.out _).mono ?_)
        rintro e w2 ⟨rfl,hr2,hg2⟩
        have HR3:=qH hr2
        clear hr2
        go_wp2_with fail
        go_ret
        refine ⟨0,kk,15,rfl,by unfold I64; omega,HR3.out,an (HG2.out _) hg2,hkks,fun h => absurd rfl h,fun _ => ?_⟩
        rw [<- HRR.out,HN.out.2,HD.out,HBAD.out]
        simp [Rs.more,Rs.map]
      have eb0:((b:Int) == 0) = false:=by simp; omega
      have hgood:¬ ((i = 9∧1 < b)∨(0 < i∧b = 0)):=by omega
      clear e9'
      obtain ⟨hlt1,hlt2⟩:=dig_lt hu hi hb2 hgood
      obtain ⟨v,hv⟩:=gX (b % 128)
      rw [<- hv] at hlt1 hlt2
      obtain ⟨g3,g4⟩:=dig_or hu (v:=v) (by omega) hlt1
      have g1:bits .and .u8 (b:Int) 127 = (v:Int):=by rw [u8_and127 (b:Int) (by omega) (by omega)]; omega
      have g2:IntKind.u64.wrap (v:Int) = (v:Int):=by rw [IntKind.wrap_u64]; omega
      obtain ⟨u2,hu2⟩:=gX (u + v * 128 ^ i)
      rw [<- hu2] at g4 hlt1 hlt2
      obtain ⟨z,hz⟩:=gX (v * 128 ^ i)
      rw [<- hz] at g3 g4
      have g3':IntKind.u64.wrap ((v:Int) * 9223372036854775808) = (z:Int):=by
        have q:=g3
        rw [h9] at q
        exact q
      by_cases h128:b < 128
      · have e128:decide ((b:Int) < 128) = true:=by simp; omega
        have e129:(b:Int) < 128:=by omega
        have HL:Hid (rdV i u (b::(al s).drop kk) = .ok u2 1):=qH (by rw [rdV_last hgood h128,hu2,hv,Nat.mod_eq_of_lt h128])
        obtain ⟨hf,hhf⟩:=gX (u2 / 2)
        have p0:(u2:Int) / 2 = (hf:Int):=by omega
        by_cases hpar:u2 % 2 = 0
        · have HX:Hid (unzz u2 = (hf:Int)):=qH (by rw [unzz_even hpar,<- hhf])
          have HI:Hid (I64 (hf:Int)):=qH (by unfold I64; omega)
          have hh:hf < 9223372036854775808:=by omega
          have hr:-9223372036854775808≤(hf:Int)∧(hf:Int)≤9223372036854775807:=by omega
          have p1:bits .and .u64 (u2:Int) 1 = 0:=by rw [Lib.u64_and1 (u2:Int) (by omega) (by omega)]; omega
          have p5:bits .xor .i64 (hf:Int) 0 = (hf:Int):=xor_zero64 hf hh
          have p2:RowKit.wrap64 (hf:Int) = (hf:Int):=IntWalk.wrap64_in _ hr
          have p3:IntKind.i64.wrap (hf:Int) = (hf:Int):=IntWalk.i64_in _ hr
          clear hv hz hu2 hhf hgood hh hr
          go_wp2_with fail
          go_ret
          first
            | refine ⟨_,kk,0,rfl,HI.out,HR2.out _,HG2.out _,hkks,fun h => absurd rfl h,fun _ => ?_⟩
            | refine ⟨_,rfl,HI.out,kk,0,HR2.out _,HG2.out _,hkks,fun h => absurd rfl h,fun _ => ?_⟩
          rw [<- HRR.out,HN.out.2,HD.out,HL.out]
          refine ⟨HX.out.symm,?_,rfl⟩
          have q1:=HN.out.1
          have q2:=HKK.out
          clear p1 p2 p3
          omega
        have HX:Hid (unzz u2 = (-(hf:Int) - 1)):=qH (by rw [unzz_odd (by omega),<- hhf])
        have HI:Hid (I64 (-(hf:Int) - 1)):=qH (by unfold I64; omega)
        have hh:hf < 9223372036854775808:=by omega
        have hr:-9223372036854775808≤(hf:Int)∧(hf:Int)≤9223372036854775807:=by omega
        have p1:bits .and .u64 (u2:Int) 1 = 1:=by rw [Lib.u64_and1 (u2:Int) (by omega) (by omega)]; omega
        have p5:bits .xor .i64 (hf:Int) (-1) = -(hf:Int) - 1:=xor_ones hf hh
        have p2:RowKit.wrap64 (hf:Int) = (hf:Int):=IntWalk.wrap64_in _ hr
        have p3:IntKind.i64.wrap (hf:Int) = (hf:Int):=IntWalk.i64_in _ hr
        clear hv hz hu2 hhf hgood hh hr
        go_wp2_with fail
        go_ret
        first
          | refine ⟨_,kk,0,rfl,HI.out,HR2.out _,HG2.out _,hkks,fun h => absurd rfl h,fun _ => ?_⟩
          | refine ⟨_,rfl,HI.out,kk,0,HR2.out _,HG2.out _,hkks,fun h => absurd rfl h,fun _ => ?_⟩
        rw [<- HRR.out,HN.out.2,HD.out,HL.out]
        refine ⟨HX.out.symm,?_,rfl⟩
        have q1:=HN.out.1
        have q2:=HKK.out
        clear p1 p2 p3
        omega
      exact absurd h128 (by omega)
    have e9:((i:Int) == 9) = false:=by simp; omega
    have hi8:i≤8:=by omega
    by_cases h0:0 < i
    · have e0:decide ((0:Int) < (i:Int)) = true:=by simp; omega
      by_cases hb0:b = 0
      · have eb0:((b:Int) == 0) = true:=by simp; omega
        have hbad:(i = 9∧1 < b)∨(0 < i∧b = 0):=.inr ⟨h0,hb0⟩
        have HB0:=qH hb0
        clear hb0
        have HBAD:Hid (rdV i u (b::(al s).drop kk) = .err 15):=qH (rdV_bad hbad)
        have HF:=qH (fun n:Nat => fail97 r kk s 15 _ (HR2.out n))
        clear HR2
        go_wp2_with fail
        refine ((HF.out _).mono ?_)
        rintro e w2 ⟨rfl,hr2,hg2⟩
        have HR3:=qH hr2
        clear hr2
        go_wp2_with fail
        go_ret
        refine ⟨0,kk,15,rfl,by unfold I64; omega,HR3.out,an (HG2.out _) hg2,hkks,fun h => absurd rfl h,fun _ => ?_⟩
        rw [<- HRR.out,HN.out.2,HD.out,HBAD.out]
        simp [Rs.more,Rs.map]
      have eb0:((b:Int) == 0) = false:=by simp; omega
      have hgood:¬ ((i = 9∧1 < b)∨(0 < i∧b = 0)):=by omega
      obtain ⟨hlt1,hlt2⟩:=dig_lt hu hi hb2 hgood
      obtain ⟨v,hv⟩:=gX (b % 128)
      rw [<- hv] at hlt1 hlt2
      obtain ⟨g3,g4⟩:=dig_or hu (v:=v) (by omega) hlt1
      have g1:bits .and .u8 (b:Int) 127 = (v:Int):=by rw [u8_and127 (b:Int) (by omega) (by omega)]; omega
      have g2:IntKind.u64.wrap (v:Int) = (v:Int):=by rw [IntKind.wrap_u64]; omega
      obtain ⟨u2,hu2⟩:=gX (u + v * 128 ^ i)
      rw [<- hu2] at g4 hlt1 hlt2
      obtain ⟨z,hz⟩:=gX (v * 128 ^ i)
      rw [<- hz] at g3 g4
      by_cases h128:b < 128
      · have e128:decide ((b:Int) < 128) = true:=by simp; omega
        have e129:(b:Int) < 128:=by omega
        have HL:Hid (rdV i u (b::(al s).drop kk) = .ok u2 1):=qH (by rw [rdV_last hgood h128,hu2,hv,Nat.mod_eq_of_lt h128])
        obtain ⟨hf,hhf⟩:=gX (u2 / 2)
        have p0:(u2:Int) / 2 = (hf:Int):=by omega
        by_cases hpar:u2 % 2 = 0
        · have HX:Hid (unzz u2 = (hf:Int)):=qH (by rw [unzz_even hpar,<- hhf])
          have HI:Hid (I64 (hf:Int)):=qH (by unfold I64; omega)
          have hh:hf < 9223372036854775808:=by omega
          have hr:-9223372036854775808≤(hf:Int)∧(hf:Int)≤9223372036854775807:=by omega
          have p1:bits .and .u64 (u2:Int) 1 = 0:=by rw [Lib.u64_and1 (u2:Int) (by omega) (by omega)]; omega
          have p5:bits .xor .i64 (hf:Int) 0 = (hf:Int):=xor_zero64 hf hh
          have p2:RowKit.wrap64 (hf:Int) = (hf:Int):=IntWalk.wrap64_in _ hr
          have p3:IntKind.i64.wrap (hf:Int) = (hf:Int):=IntWalk.i64_in _ hr
          clear hv hz hu2 hhf hgood hh hr
          go_wp2_with fail
          go_ret
          first
            | refine ⟨_,kk,0,rfl,HI.out,HR2.out _,HG2.out _,hkks,fun h => absurd rfl h,fun _ => ?_⟩
            | refine ⟨_,rfl,HI.out,kk,0,HR2.out _,HG2.out _,hkks,fun h => absurd rfl h,fun _ => ?_⟩
          rw [<- HRR.out,HN.out.2,HD.out,HL.out]
          refine ⟨HX.out.symm,?_,rfl⟩
          have q1:=HN.out.1
          have q2:=HKK.out
          clear p1 p2 p3
          omega
        have HX:Hid (unzz u2 = (-(hf:Int) - 1)):=qH (by rw [unzz_odd (by omega),<- hhf])
        have HI:Hid (I64 (-(hf:Int) - 1)):=qH (by unfold I64; omega)
        have hh:hf < 9223372036854775808:=by omega
        have hr:-9223372036854775808≤(hf:Int)∧(hf:Int)≤9223372036854775807:=by omega
        have p1:bits .and .u64 (u2:Int) 1 = 1:=by rw [Lib.u64_and1 (u2:Int) (by omega) (by omega)]; omega
        have p5:bits .xor .i64 (hf:Int) (-1) = -(hf:Int) - 1:=xor_ones hf hh
        have p2:RowKit.wrap64 (hf:Int) = (hf:Int):=IntWalk.wrap64_in _ hr
        have p3:IntKind.i64.wrap (hf:Int) = (hf:Int):=IntWalk.i64_in _ hr
        clear hv hz hu2 hhf hgood hh hr
        go_wp2_with fail
        go_ret
        first
          | refine ⟨_,kk,0,rfl,HI.out,HR2.out _,HG2.out _,hkks,fun h => absurd rfl h,fun _ => ?_⟩
          | refine ⟨_,rfl,HI.out,kk,0,HR2.out _,HG2.out _,hkks,fun h => absurd rfl h,fun _ => ?_⟩
        rw [<- HRR.out,HN.out.2,HD.out,HL.out]
        refine ⟨HX.out.symm,?_,rfl⟩
        have q1:=HN.out.1
        have q2:=HKK.out
        clear p1 p2 p3
        omega
      skip
      have e128:decide ((b:Int) < 128) = false:=by simp; omega
      have e129:¬ (b:Int) < 128:=by omega
      have HN2:Hid (NumS s k0 R (i + 1) u2 kk):=qH ⟨by rw [HKK.out,HN.out.1]; omega,by rw [HN.out.2,HD.out,rdV_more hgood h128,Rs.more_more,hu2,hv,show b % 128 = b - 128 by omega]⟩
      have hlt3:=hlt2 (by omega)
      clear hv hz hu2 hgood
      go_wp2_with fail
      first
        | exact ⟨⟨u2,i + 1,kk,rfl,by go_num,by omega,hkks,hlt3,HN2,qH ⟨HR2.out _,HG2.out _⟩⟩,by simp [intOf]; omega⟩
        | (go_roundw
           case rel => exact ⟨u2,i + 1,kk,rfl,by go_num,by omega,hkks,hlt3,HN2,qH ⟨HR2.out _,HG2.out _⟩⟩
           simp [intOf]; omega)
    have e0:decide ((0:Int) < (i:Int)) = false:=by simp; omega
    have hgood:¬ ((i = 9∧1 < b)∨(0 < i∧b = 0)):=by omega
    obtain ⟨hlt1,hlt2⟩:=dig_lt hu hi hb2 hgood
    obtain ⟨v,hv⟩:=gX (b % 128)
    rw [<- hv] at hlt1 hlt2
    obtain ⟨g3,g4⟩:=dig_or hu (v:=v) (by omega) hlt1
    have g1:bits .and .u8 (b:Int) 127 = (v:Int):=by rw [u8_and127 (b:Int) (by omega) (by omega)]; omega
    have g2:IntKind.u64.wrap (v:Int) = (v:Int):=by rw [IntKind.wrap_u64]; omega
    obtain ⟨u2,hu2⟩:=gX (u + v * 128 ^ i)
    rw [<- hu2] at g4 hlt1 hlt2
    obtain ⟨z,hz⟩:=gX (v * 128 ^ i)
    rw [<- hz] at g3 g4
    by_cases h128:b < 128
    · have e128:decide ((b:Int) < 128) = true:=by simp; omega
      have e129:(b:Int) < 128:=by omega
      have HL:Hid (rdV i u (b::(al s).drop kk) = .ok u2 1):=qH (by rw [rdV_last hgood h128,hu2,hv,Nat.mod_eq_of_lt h128])
      obtain ⟨hf,hhf⟩:=gX (u2 / 2)
      have p0:(u2:Int) / 2 = (hf:Int):=by omega
      by_cases hpar:u2 % 2 = 0
      · have HX:Hid (unzz u2 = (hf:Int)):=qH (by rw [unzz_even hpar,<- hhf])
        have HI:Hid (I64 (hf:Int)):=qH (by unfold I64; omega)
        have hh:hf < 9223372036854775808:=by omega
        have hr:-9223372036854775808≤(hf:Int)∧(hf:Int)≤9223372036854775807:=by omega
        have p1:bits .and .u64 (u2:Int) 1 = 0:=by rw [Lib.u64_and1 (u2:Int) (by omega) (by omega)]; omega
        have p5:bits .xor .i64 (hf:Int) 0 = (hf:Int):=xor_zero64 hf hh
        have p2:RowKit.wrap64 (hf:Int) = (hf:Int):=IntWalk.wrap64_in _ hr
        have p3:IntKind.i64.wrap (hf:Int) = (hf:Int):=IntWalk.i64_in _ hr
        clear hv hz hu2 hhf hgood hh hr
        go_wp2_with fail
        go_ret
        first
          | refine ⟨_,kk,0,rfl,HI.out,HR2.out _,HG2.out _,hkks,fun h => absurd rfl h,fun _ => ?_⟩
          | refine ⟨_,rfl,HI.out,kk,0,HR2.out _,HG2.out _,hkks,fun h => absurd rfl h,fun _ => ?_⟩
        rw [<- HRR.out,HN.out.2,HD.out,HL.out]
        refine ⟨HX.out.symm,?_,rfl⟩
        have q1:=HN.out.1
        have q2:=HKK.out
        clear p1 p2 p3
        omega
      have HX:Hid (unzz u2 = (-(hf:Int) - 1)):=qH (by rw [unzz_odd (by omega),<- hhf])
      have HI:Hid (I64 (-(hf:Int) - 1)):=qH (by unfold I64; omega)
      have hh:hf < 9223372036854775808:=by omega
      have hr:-9223372036854775808≤(hf:Int)∧(hf:Int)≤9223372036854775807:=by omega
      have p1:bits .and .u64 (u2:Int) 1 = 1:=by rw [Lib.u64_and1 (u2:Int) (by omega) (by omega)]; omega
      have p5:bits .xor .i64 (hf:Int) (-1) = -(hf:Int) - 1:=xor_ones hf hh
      have p2:RowKit.wrap64 (hf:Int) = (hf:Int):=IntWalk.wrap64_in _ hr
      have p3:IntKind.i64.wrap (hf:Int) = (hf:Int):=IntWalk.i64_in _ hr
      clear hv hz hu2 hhf hgood hh hr
      go_wp2_with fail
      go_ret
      first
        | refine ⟨_,kk,0,rfl,HI.out,HR2.out _,HG2.out _,hkks,fun h => absurd rfl h,fun _ => ?_⟩
        | refine ⟨_,rfl,HI.out,kk,0,HR2.out _,HG2.out _,hkks,fun h => absurd rfl h,fun _ => ?_⟩
      rw [<- HRR.out,HN.out.2,HD.out,HL.out]
      refine ⟨HX.out.symm,?_,rfl⟩
      have q1:=HN.out.1
      have q2:=HKK.out
      clear p1 p2 p3
      omega
    skip
    have e128:decide ((b:Int) < 128) = false:=by simp; omega
    have e129:¬ (b:Int) < 128:=by omega
    have HN2:Hid (NumS s k0 R (i + 1) u2 kk):=qH ⟨by rw [HKK.out,HN.out.1]; omega,by rw [HN.out.2,HD.out,rdV_more hgood h128,Rs.more_more,hu2,hv,show b % 128 = b - 128 by omega]⟩
    have hlt3:=hlt2 (by omega)
    clear hv hz hu2 hgood
    go_wp2_with fail
    first
      | exact ⟨⟨u2,i + 1,kk,rfl,by go_num,by omega,hkks,hlt3,HN2,qH ⟨HR2.out _,HG2.out _⟩⟩,by simp [intOf]; omega⟩
      | (go_roundw
         case rel => exact ⟨u2,i + 1,kk,rfl,by go_num,by omega,hkks,hlt3,HN2,qH ⟨HR2.out _,HG2.out _⟩⟩
         simp [intOf]; omega)
  have d1:decide ((s.size:Int)≤(k:Int)) = true:=by simp; omega
  have d2:(s.size:Int)≤(k:Int):=by omega
  have hks2:k = s.size:=by omega
  go_wp2_with fail
  go_quiet (fail)
  have HF:=qH (fail97 r k s 34 (wr.drewN nq) (HR.out.1.drewN nq))
  have HG:=qH (aZ HR.out.2 nq)
  clear HR c0 c1 c2 f1 f2
  go_wp2_with fail
  refine HF.out.mono ?_
  rintro e w2 ⟨rfl,hr2,hg2⟩
  have HR2:=qH hr2
  clear HF hr2
  go_wp2_with fail
  go_ret
  refine ⟨0,k,34,rfl,by unfold I64; omega,HR2.out,an HG.out hg2,by omega,fun h => absurd rfl h,fun _ => ?_⟩
  rw [<- HRR.out,HN.out.2,List.drop_eq_nil_of_le (by rw [aE]; omega)]
  simp [rdV,Rs.more,Rs.map]
theorem number17 (r k0:Nat) (s:ByteArray) (w:World) (h:Rdr 30 r s k0 0 w) (hk:k0≤s.size) (hs:s.size≤1099511627776) :
    Calls Tryz.prog 17 #[.pointer (some ⟨r,0,none⟩)] w fun e w' => ∃ x k' e',e = .returned (.int .i64 x)∧I64 x∧Rdr 30 r s k' e' w'∧w.grownBy w' (some r)∧Res rdN s k0 0 x k' e':=by
  obtain ⟨R,hR⟩:=gX (rdN ((al s).drop k0))
  have HN0:Hid (NumS s k0 R 0 0 k0):=qH ⟨rfl,by rw [hR]; unfold rdN; cases rdV 0 0 ((al s).drop k0) <;> simp [Rs.more]⟩
  have HRR:=qH hR
  have H0:Hid (Rdr 30 r s k0 0 w∧w.grownBy w (some r)):=qH ⟨h,av _ _⟩
  clear hR h
  go_enter Tryz.func17,Tryz.ntmps17
  go_wp2_with fail
  go_loopw [3,4] (fun uv iv wr => ∃ u i k:Nat,uv = .int .u64 (u:Int)∧iv = .int .i64 (i:Int)∧i≤9∧k≤s.size∧u < 128 ^ i∧Hid (NumS s k0 R i u k)∧Hid (Rdr 30 r s k 0 wr∧w.grownBy wr (some r))) (fun _ iv _ => 20 - (intOf iv).toNat)
  case atStart => exact ⟨0,0,k0,rfl,rfl,by omega,hk,by decide,HN0,H0⟩
  obtain ⟨u,i,k,rfl,rfl,hi,hks,hu,HN,HR⟩:=hrel
  clear HN0 H0
  obtain ⟨c0,c1,c2,f1,f2⟩:=HR.out.1.cells
  by_cases hend:k < s.size
  · have d1:decide ((s.size:Int)≤(k:Int)) = false:=by simp; omega
    have d2:¬ (s.size:Int)≤(k:Int):=by omega
    have d3:(k:Int) < (s.size:Int):=by omega
    go_wp2_with fail
    go_quiet (fail)
    go_wp2_with fail
    go_quiet (fail)
    obtain ⟨kk,hkk⟩:=gX (k + 1)
    have HR2:=qH (fun n:Nat => (HR.out.1.drewN n).setAt kk)
    have HG2:=qH (fun n:Nat => an (aZ HR.out.2 n) (grown_set (wr.drewN n) r 1 (.int .i64 (kk:Int))))
    obtain ⟨b,hb⟩:∃ b,s[k].toNat = b:=⟨_,rfl⟩
    have hb2:b < 256:=by rw [<- hb]; exact s[k].toNat_lt
    have HD:Hid ((al s).drop k = b::(al s).drop kk):=qH (by rw [byte_at hend,hb,hkk])
    have ek:IntKind.i64.wrap ((k:Int) + 1) = (kk:Int):=by rw [IntWalk.i64_in _ (by omega)]; omega
    have hkks:kk≤s.size:=by omega
    have HKK:=qH hkk
    have em:IntKind.i64.wrap (7 * (i:Int)) = 7 * (i:Int):=IntWalk.i64_in _ (by omega)
    have ei:IntKind.i64.wrap ((i:Int) + 1) = ((i:Int) + 1):=IntWalk.i64_in _ (by omega)
    clear HR hkk
    by_cases h9:i = 9
    · have e9:((i:Int) == 9) = true:=by simp; omega
      have e9':(i:Int) = 9:=by omega
      have e0:decide ((0:Int) < (i:Int)) = true:=by simp; omega
      by_cases hb1:1 < b
      · have eb:decide ((1:Int) < (b:Int)) = true:=by simp; omega
        have hbad:(i = 9∧1 < b)∨(0 < i∧b = 0):=.inl ⟨h9,hb1⟩
        clear e9'
        have HBAD:Hid (rdV i u (b::(al s).drop kk) = .err 15):=qH (rdV_bad hbad)
        have HF:=qH (fun n:Nat => fail44 r kk s 15 _ (HR2.out n))
        clear HR2
        go_wp2_with fail
        refine ((HF.out _).mono ?_)
        rintro e w2 ⟨rfl,hr2,hg2⟩
        have HR3:=qH hr2
        clear hr2
        go_wp2_with fail
        go_ret
        refine ⟨0,kk,15,rfl,by unfold I64; omega,HR3.out,an (HG2.out _) hg2,hkks,fun h => absurd rfl h,fun _ => ?_⟩
        rw [<- HRR.out,HN.out.2,HD.out,HBAD.out]
        simp [Rs.more,Rs.map]
      have eb:decide ((1:Int) < (b:Int)) = false:=by simp; omega
      by_cases hb0:b = 0
      · have eb0:((b:Int) == 0) = true:=by simp; omega
        have hbad:(i = 9∧1 < b)∨(0 < i∧b = 0):=.inr ⟨by omega,hb0⟩
        have HB0:=qH hb0
        clear e9' hb0
        have HBAD:Hid (rdV i u (b::(al s).drop kk) = .err 15):=qH (rdV_bad hbad)
        have HF:=qH (fun n:Nat => fail44 r kk s 15 _ (HR2.out n))
        clear HR2
        go_wp2_with fail
        refine ((HF.out _).mono ?_)
        rintro e w2 ⟨rfl,hr2,hg2⟩
        have HR3:=qH hr2
        clear hr2
        go_wp2_with fail
        go_ret
        refine ⟨0,kk,15,rfl,by unfold I64; omega,HR3.out,an (HG2.out _) hg2,hkks,fun h => absurd rfl h,fun _ => ?_⟩
        rw [<- HRR.out,HN.out.2,HD.out,HBAD.out]
        simp [Rs.more,Rs.map]
      have eb0:((b:Int) == 0) = false:=by simp; omega
      have hgood:¬ ((i = 9∧1 < b)∨(0 < i∧b = 0)):=by omega
      clear e9'
      obtain ⟨hlt1,hlt2⟩:=dig_lt hu hi hb2 hgood
      obtain ⟨v,hv⟩:=gX (b % 128)
      rw [<- hv] at hlt1 hlt2
      obtain ⟨g3,g4⟩:=dig_or hu (v:=v) (by omega) hlt1
      have g1:(b:Int) % 128 = (v:Int):=by omega
      have g1':(b:Int).tmod 128 = (v:Int):=by rw [Int.tmod_eq_emod_of_nonneg (by omega)]; exact g1
      have g2:IntKind.u64.wrap (v:Int) = (v:Int):=by rw [IntKind.wrap_u64]; omega
      obtain ⟨u2,hu2⟩:=gX (u + v * 128 ^ i)
      rw [<- hu2] at g4 hlt1 hlt2
      obtain ⟨z,hz⟩:=gX (v * 128 ^ i)
      rw [<- hz] at g3 g4
      have g3':IntKind.u64.wrap ((v:Int) * 9223372036854775808) = (z:Int):=by
        have q:=g3
        rw [h9] at q
        exact q
      by_cases h128:b < 128
      · have e128:decide ((b:Int) < 128) = true:=by simp; omega
        have e129:(b:Int) < 128:=by omega
        have HL:Hid (rdV i u (b::(al s).drop kk) = .ok u2 1):=qH (by rw [rdV_last hgood h128,hu2,hv,Nat.mod_eq_of_lt h128])
        obtain ⟨hf,hhf⟩:=gX (u2 / 2)
        have p0:(u2:Int) / 2 = (hf:Int):=by omega
        by_cases hpar:u2 % 2 = 0
        · have HX:Hid (unzz u2 = (hf:Int)):=qH (by rw [unzz_even hpar,<- hhf])
          have HI:Hid (I64 (hf:Int)):=qH (by unfold I64; omega)
          have hh:hf < 9223372036854775808:=by omega
          have hr:-9223372036854775808≤(hf:Int)∧(hf:Int)≤9223372036854775807:=by omega
          have p1:(u2:Int) % 2 = 0:=by omega
          have p1':(u2:Int).tmod 2 = 0:=by rw [Int.tmod_eq_emod_of_nonneg (by omega)]; exact p1
          have p2:RowKit.wrap64 (hf:Int) = (hf:Int):=IntWalk.wrap64_in _ hr
          have p3:IntKind.i64.wrap (hf:Int) = (hf:Int):=IntWalk.i64_in _ hr
          clear hv hz hu2 hhf hgood hh hr
          go_wp2_with fail
          go_ret
          first
            | refine ⟨_,kk,0,rfl,HI.out,HR2.out _,HG2.out _,hkks,fun h => absurd rfl h,fun _ => ?_⟩
            | refine ⟨_,rfl,HI.out,kk,0,HR2.out _,HG2.out _,hkks,fun h => absurd rfl h,fun _ => ?_⟩
          rw [<- HRR.out,HN.out.2,HD.out,HL.out]
          refine ⟨HX.out.symm,?_,rfl⟩
          have q1:=HN.out.1
          have q2:=HKK.out
          clear p1 p2 p3
          omega
        have HX:Hid (unzz u2 = (-(hf:Int) - 1)):=qH (by rw [unzz_odd (by omega),<- hhf])
        have HI:Hid (I64 (-(hf:Int) - 1)):=qH (by unfold I64; omega)
        have hh:hf < 9223372036854775808:=by omega
        have hr:-9223372036854775808≤(hf:Int)∧(hf:Int)≤9223372036854775807:=by omega
        have p1:(u2:Int) % 2 = 1:=by omega
        have p1':(u2:Int).tmod 2 = 1:=by rw [Int.tmod_eq_emod_of_nonneg (by omega)]; exact p1
        obtain ⟨p5,p6⟩:=not_half hf hh
        have p7:RowKit.wrap64 ((18446744073709551615 - hf:Nat):Int) = -(hf:Int) - 1:=by rw [<- IntWalk.i64_left]; exact p6
        have p2:RowKit.wrap64 (hf:Int) = (hf:Int):=IntWalk.wrap64_in _ hr
        have p3:IntKind.i64.wrap (hf:Int) = (hf:Int):=IntWalk.i64_in _ hr
        clear hv hz hu2 hhf hgood hh hr
        go_wp2_with fail
        go_ret
        first
          | refine ⟨_,kk,0,rfl,HI.out,HR2.out _,HG2.out _,hkks,fun h => absurd rfl h,fun _ => ?_⟩
          | refine ⟨_,rfl,HI.out,kk,0,HR2.out _,HG2.out _,hkks,fun h => absurd rfl h,fun _ => ?_⟩
        rw [<- HRR.out,HN.out.2,HD.out,HL.out]
        refine ⟨HX.out.symm,?_,rfl⟩
        have q1:=HN.out.1
        have q2:=HKK.out
        clear p1 p2 p3
        omega
      exact absurd h128 (by omega)
    have e9:((i:Int) == 9) = false:=by simp; omega
    have hi8:i≤8:=by omega
    by_cases h0:0 < i
    · have e0:decide ((0:Int) < (i:Int)) = true:=by simp; omega
      by_cases hb0:b = 0
      · have eb0:((b:Int) == 0) = true:=by simp; omega
        have hbad:(i = 9∧1 < b)∨(0 < i∧b = 0):=.inr ⟨h0,hb0⟩
        have HB0:=qH hb0
        clear hb0
        have HBAD:Hid (rdV i u (b::(al s).drop kk) = .err 15):=qH (rdV_bad hbad)
        have HF:=qH (fun n:Nat => fail44 r kk s 15 _ (HR2.out n))
        clear HR2
        go_wp2_with fail
        refine ((HF.out _).mono ?_)
        rintro e w2 ⟨rfl,hr2,hg2⟩
        have HR3:=qH hr2
        clear hr2
        go_wp2_with fail
        go_ret
        refine ⟨0,kk,15,rfl,by unfold I64; omega,HR3.out,an (HG2.out _) hg2,hkks,fun h => absurd rfl h,fun _ => ?_⟩
        rw [<- HRR.out,HN.out.2,HD.out,HBAD.out]
        simp [Rs.more,Rs.map]
      have eb0:((b:Int) == 0) = false:=by simp; omega
      have hgood:¬ ((i = 9∧1 < b)∨(0 < i∧b = 0)):=by omega
      obtain ⟨hlt1,hlt2⟩:=dig_lt hu hi hb2 hgood
      obtain ⟨v,hv⟩:=gX (b % 128)
      rw [<- hv] at hlt1 hlt2
      obtain ⟨g3,g4⟩:=dig_or hu (v:=v) (by omega) hlt1
      have g1:(b:Int) % 128 = (v:Int):=by omega
      have g1':(b:Int).tmod 128 = (v:Int):=by rw [Int.tmod_eq_emod_of_nonneg (by omega)]; exact g1
      have g2:IntKind.u64.wrap (v:Int) = (v:Int):=by rw [IntKind.wrap_u64]; omega
      obtain ⟨u2,hu2⟩:=gX (u + v * 128 ^ i)
      rw [<- hu2] at g4 hlt1 hlt2
      obtain ⟨z,hz⟩:=gX (v * 128 ^ i)
      rw [<- hz] at g3 g4
      by_cases h128:b < 128
      · have e128:decide ((b:Int) < 128) = true:=by simp; omega
        have e129:(b:Int) < 128:=by omega
        have HL:Hid (rdV i u (b::(al s).drop kk) = .ok u2 1):=qH (by rw [rdV_last hgood h128,hu2,hv,Nat.mod_eq_of_lt h128])
        obtain ⟨hf,hhf⟩:=gX (u2 / 2)
        have p0:(u2:Int) / 2 = (hf:Int):=by omega
        by_cases hpar:u2 % 2 = 0
        · have HX:Hid (unzz u2 = (hf:Int)):=qH (by rw [unzz_even hpar,<- hhf])
          have HI:Hid (I64 (hf:Int)):=qH (by unfold I64; omega)
          have hh:hf < 9223372036854775808:=by omega
          have hr:-9223372036854775808≤(hf:Int)∧(hf:Int)≤9223372036854775807:=by omega
          have p1:(u2:Int) % 2 = 0:=by omega
          have p1':(u2:Int).tmod 2 = 0:=by rw [Int.tmod_eq_emod_of_nonneg (by omega)]; exact p1
          have p2:RowKit.wrap64 (hf:Int) = (hf:Int):=IntWalk.wrap64_in _ hr
          have p3:IntKind.i64.wrap (hf:Int) = (hf:Int):=IntWalk.i64_in _ hr
          clear hv hz hu2 hhf hgood hh hr
          go_wp2_with fail
          go_ret
          first
            | refine ⟨_,kk,0,rfl,HI.out,HR2.out _,HG2.out _,hkks,fun h => absurd rfl h,fun _ => ?_⟩
            | refine ⟨_,rfl,HI.out,kk,0,HR2.out _,HG2.out _,hkks,fun h => absurd rfl h,fun _ => ?_⟩
          rw [<- HRR.out,HN.out.2,HD.out,HL.out]
          refine ⟨HX.out.symm,?_,rfl⟩
          have q1:=HN.out.1
          have q2:=HKK.out
          clear p1 p2 p3
          omega
        have HX:Hid (unzz u2 = (-(hf:Int) - 1)):=qH (by rw [unzz_odd (by omega),<- hhf])
        have HI:Hid (I64 (-(hf:Int) - 1)):=qH (by unfold I64; omega)
        have hh:hf < 9223372036854775808:=by omega
        have hr:-9223372036854775808≤(hf:Int)∧(hf:Int)≤9223372036854775807:=by omega
        have p1:(u2:Int) % 2 = 1:=by omega
        have p1':(u2:Int).tmod 2 = 1:=by rw [Int.tmod_eq_emod_of_nonneg (by omega)]; exact p1
        obtain ⟨p5,p6⟩:=not_half hf hh
        have p7:RowKit.wrap64 ((18446744073709551615 - hf:Nat):Int) = -(hf:Int) - 1:=by rw [<- IntWalk.i64_left]; exact p6
        have p2:RowKit.wrap64 (hf:Int) = (hf:Int):=IntWalk.wrap64_in _ hr
        have p3:IntKind.i64.wrap (hf:Int) = (hf:Int):=IntWalk.i64_in _ hr
        clear hv hz hu2 hhf hgood hh hr
        go_wp2_with fail
        go_ret
        first
          | refine ⟨_,kk,0,rfl,HI.out,HR2.out _,HG2.out _,hkks,fun h => absurd rfl h,fun _ => ?_⟩
          | refine ⟨_,rfl,HI.out,kk,0,HR2.out _,HG2.out _,hkks,fun h => absurd rfl h,fun _ => ?_⟩
        rw [<- HRR.out,HN.out.2,HD.out,HL.out]
        refine ⟨HX.out.symm,?_,rfl⟩
        have q1:=HN.out.1
        have q2:=HKK.out
        clear p1 p2 p3
        omega
      skip
      have e128:decide ((b:Int) < 128) = false:=by simp; omega
      have e129:¬ (b:Int) < 128:=by omega
      have HN2:Hid (NumS s k0 R (i + 1) u2 kk):=qH ⟨by rw [HKK.out,HN.out.1]; omega,by rw [HN.out.2,HD.out,rdV_more hgood h128,Rs.more_more,hu2,hv,show b % 128 = b - 128 by omega]⟩
      have hlt3:=hlt2 (by omega)
      clear hv hz hu2 hgood
      go_wp2_with fail
      first
        | exact ⟨⟨u2,i + 1,kk,rfl,by go_num,by omega,hkks,hlt3,HN2,qH ⟨HR2.out _,HG2.out _⟩⟩,by simp [intOf]; omega⟩
        | (go_roundw
           case rel => exact ⟨u2,i + 1,kk,rfl,by go_num,by omega,hkks,hlt3,HN2,qH ⟨HR2.out _,HG2.out _⟩⟩
           simp [intOf]; omega)
    have e0:decide ((0:Int) < (i:Int)) = false:=by simp; omega
    have hgood:¬ ((i = 9∧1 < b)∨(0 < i∧b = 0)):=by omega
    obtain ⟨hlt1,hlt2⟩:=dig_lt hu hi hb2 hgood
    obtain ⟨v,hv⟩:=gX (b % 128)
    rw [<- hv] at hlt1 hlt2
    obtain ⟨g3,g4⟩:=dig_or hu (v:=v) (by omega) hlt1
    have g1:(b:Int) % 128 = (v:Int):=by omega
    have g1':(b:Int).tmod 128 = (v:Int):=by rw [Int.tmod_eq_emod_of_nonneg (by omega)]; exact g1
    have g2:IntKind.u64.wrap (v:Int) = (v:Int):=by rw [IntKind.wrap_u64]; omega
    obtain ⟨u2,hu2⟩:=gX (u + v * 128 ^ i)
    rw [<- hu2] at g4 hlt1 hlt2
    obtain ⟨z,hz⟩:=gX (v * 128 ^ i)
    rw [<- hz] at g3 g4
    by_cases h128:b < 128
    · have e128:decide ((b:Int) < 128) = true:=by simp; omega
      have e129:(b:Int) < 128:=by omega
      have HL:Hid (rdV i u (b::(al s).drop kk) = .ok u2 1):=qH (by rw [rdV_last hgood h128,hu2,hv,Nat.mod_eq_of_lt h128])
      obtain ⟨hf,hhf⟩:=gX (u2 / 2)
      have p0:(u2:Int) / 2 = (hf:Int):=by omega
      by_cases hpar:u2 % 2 = 0
      · have HX:Hid (unzz u2 = (hf:Int)):=qH (by rw [unzz_even hpar,<- hhf])
        have HI:Hid (I64 (hf:Int)):=qH (by unfold I64; omega)
        have hh:hf < 9223372036854775808:=by omega
        have hr:-9223372036854775808≤(hf:Int)∧(hf:Int)≤9223372036854775807:=by omega
        have p1:(u2:Int) % 2 = 0:=by omega
        have p1':(u2:Int).tmod 2 = 0:=by rw [Int.tmod_eq_emod_of_nonneg (by omega)]; exact p1
        have p2:RowKit.wrap64 (hf:Int) = (hf:Int):=IntWalk.wrap64_in _ hr
        have p3:IntKind.i64.wrap (hf:Int) = (hf:Int):=IntWalk.i64_in _ hr
        clear hv hz hu2 hhf hgood hh hr
        go_wp2_with fail
        go_ret
        first
          | refine ⟨_,kk,0,rfl,HI.out,HR2.out _,HG2.out _,hkks,fun h => absurd rfl h,fun _ => ?_⟩
          | refine ⟨_,rfl,HI.out,kk,0,HR2.out _,HG2.out _,hkks,fun h => absurd rfl h,fun _ => ?_⟩
        rw [<- HRR.out,HN.out.2,HD.out,HL.out]
        refine ⟨HX.out.symm,?_,rfl⟩
        have q1:=HN.out.1
        have q2:=HKK.out
        clear p1 p2 p3
        omega
      have HX:Hid (unzz u2 = (-(hf:Int) - 1)):=qH (by rw [unzz_odd (by omega),<- hhf])
      have HI:Hid (I64 (-(hf:Int) - 1)):=qH (by unfold I64; omega)
      have hh:hf < 9223372036854775808:=by omega
      have hr:-9223372036854775808≤(hf:Int)∧(hf:Int)≤9223372036854775807:=by omega
      have p1:(u2:Int) % 2 = 1:=by omega
      have p1':(u2:Int).tmod 2 = 1:=by rw [Int.tmod_eq_emod_of_nonneg (by omega)]; exact p1
      obtain ⟨p5,p6⟩:=not_half hf hh
      have p7:RowKit.wrap64 ((18446744073709551615 - hf:Nat):Int) = -(hf:Int) - 1:=by rw [<- IntWalk.i64_left]; exact p6
      have p2:RowKit.wrap64 (hf:Int) = (hf:Int):=IntWalk.wrap64_in _ hr
      have p3:IntKind.i64.wrap (hf:Int) = (hf:Int):=IntWalk.i64_in _ hr
      clear hv hz hu2 hhf hgood hh hr
      go_wp2_with fail
      go_ret
      first
        | refine ⟨_,kk,0,rfl,HI.out,HR2.out _,HG2.out _,hkks,fun h => absurd rfl h,fun _ => ?_⟩
        | refine ⟨_,rfl,HI.out,kk,0,HR2.out _,HG2.out _,hkks,fun h => absurd rfl h,fun _ => ?_⟩
      rw [<- HRR.out,HN.out.2,HD.out,HL.out]
      refine ⟨HX.out.symm,?_,rfl⟩
      have q1:=HN.out.1
      have q2:=HKK.out
      clear p1 p2 p3
      omega
    skip
    have e128:decide ((b:Int) < 128) = false:=by simp; omega
    have e129:¬ (b:Int) < 128:=by omega
    have HN2:Hid (NumS s k0 R (i + 1) u2 kk):=qH ⟨by rw [HKK.out,HN.out.1]; omega,by rw [HN.out.2,HD.out,rdV_more hgood h128,Rs.more_more,hu2,hv,show b % 128 = b - 128 by omega]⟩
    have hlt3:=hlt2 (by omega)
    clear hv hz hu2 hgood
    go_wp2_with fail
    first
      | exact ⟨⟨u2,i + 1,kk,rfl,by go_num,by omega,hkks,hlt3,HN2,qH ⟨HR2.out _,HG2.out _⟩⟩,by simp [intOf]; omega⟩
      | (go_roundw
         case rel => exact ⟨u2,i + 1,kk,rfl,by go_num,by omega,hkks,hlt3,HN2,qH ⟨HR2.out _,HG2.out _⟩⟩
         simp [intOf]; omega)
  have d1:decide ((s.size:Int)≤(k:Int)) = true:=by simp; omega
  have d2:(s.size:Int)≤(k:Int):=by omega
  have hks2:k = s.size:=by omega
  go_wp2_with fail
  go_quiet (fail)
  have HF:=qH (fail44 r k s 34 (wr.drewN nq) (HR.out.1.drewN nq))
  have HG:=qH (aZ HR.out.2 nq)
  clear HR c0 c1 c2 f1 f2
  go_wp2_with fail
  refine HF.out.mono ?_
  rintro e w2 ⟨rfl,hr2,hg2⟩
  have HR2:=qH hr2
  clear HF hr2
  go_wp2_with fail
  go_ret
  refine ⟨0,k,34,rfl,by unfold I64; omega,HR2.out,an HG.out hg2,by omega,fun h => absurd rfl h,fun _ => ?_⟩
  rw [<- HRR.out,HN.out.2,List.drop_eq_nil_of_le (by rw [aE]; omega)]
  simp [rdV,Rs.more,Rs.map]
end Go.Proofs.YtmhhcfceikcfbaaGreat
