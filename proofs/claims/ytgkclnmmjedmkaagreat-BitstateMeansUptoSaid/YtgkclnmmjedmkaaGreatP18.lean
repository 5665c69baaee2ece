/- math/bits.Mul of one and a small number. -/
import Derived.Test.YtgkclnmmjedmkaaGreatProg
import Derived.Handy
import Derived.Test.YtgkclnmmjedmkaaGreatP00
set_option maxHeartbeats 1000000
namespace Go.Proofs.YtgkclnmmjedmkaaGreat
open Go.RowKit
theorem and32 (n:Nat) (hn:n < 4294967296):bits BinOp.and IntKind.u64 (n:Int) 4294967295=(n:Int):=by
 have e:((BitVec.ofInt 64 (n:Int)) &&& (BitVec.ofInt 64 4294967295)).toNat=n:=by
  rw [BitVec.toNat_and,BitVec.ofInt_natCast,BitVec.toNat_ofNat]
  have:(BitVec.ofInt 64 4294967295).toNat=2 ^ 32 - 1:=by decide
  rw [this,Nat.mod_eq_of_lt (by omega),Nat.and_two_pow_sub_one_eq_mod,Nat.mod_eq_of_lt (by omega)]
 have e2:IntKind.u64.wrap (((BitVec.ofInt 64 (n:Int)) &&& (BitVec.ofInt 64 4294967295)).toNat:Int)=(n:Int):=by rw [e,IntKind.wrap_u64];omega
 exact e2
theorem mul64_any (n:Nat) (hn:n < 4294967296) (w:World) :
  Calls Tryz.prog 85 #[.int .u64 1,.int .u64 (n:Int)] w fun e w'=>e=.returned (.tuple #[.int .u64 0,.int .u64 (n:Int)])∧w=w':=by
 have h1:bits BinOp.and IntKind.u64 1 4294967295=1:=and32 1 (by decide)
 have h2:=and32 n hn
 have h3:(n:Int) / 4294967296=0:=by omega
 have h4:IntKind.u64.wrap (n:Int)=(n:Int):=by rw [IntKind.wrap_u64];omega
 have h5:bits BinOp.and IntKind.u64 0 4294967295=0:=and32 0 (by decide)
 have h6:IntKind.u64.wrap 0=0:=by rw [IntKind.wrap_u64];rfl
 go_enter Tryz.func85,Tryz.ntmps85
 go_wp2_with fail
 go_ret2
 exact ⟨rfl,rfl⟩
theorem mul_any (n:Nat) (hn:n < 4294967296) (w:World) :
  Calls Tryz.prog 47 #[.int .u64 1,.int .u64 (n:Int)] w fun e w'=>e=.returned (.tuple #[.int .u64 0,.int .u64 (n:Int)])∧w=w':=by
 go_enter Tryz.func47,Tryz.ntmps47
 go_wp2_with (go_at_call 85;refine (mul64_any n hn w).mono ?_;rintro e w1 ⟨rfl,rfl⟩;simp only [])
 go_ret2
 exact ⟨rfl,rfl⟩
end Go.Proofs.YtgkclnmmjedmkaaGreat
