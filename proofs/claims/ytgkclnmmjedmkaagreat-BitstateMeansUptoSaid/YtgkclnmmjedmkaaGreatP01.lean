/- The domain of runes, the runes of words: what the program's own functions return. -/
import Derived.Test.YtgkclnmmjedmkaaGreatProg
import Derived.WalkKit
import Derived.WalkSpells
import Derived.WalkLawsBesides
import Derived.BigQuiet
import Derived.Deep.QuietTactic
import Derived.Lib.Hide
set_option maxHeartbeats 1000000
namespace Go.Proofs.YtgkclnmmjedmkaaGreat
open Go.RowKit
def dom (r:Int):Bool:=decide (0≤r∧r≤1114111∧(r < 55296∨57343 < r))
def word (r:Int):Bool:=decide ((97≤r∧r≤122)∨(65≤r∧r≤90)∨(48≤r∧r≤57)∨r=95)
theorem ret_bool {a b:Bool} (h:a=b):Ending.returned (.bool a)=.returned (.bool b):=by rw [h]
theorem ret_int {k:IntKind} {a b:Int} (h:a=b):Ending.returned (.int k a)=.returned (.int k b):=by rw [h]
theorem domain_any (r:Int) (w:World) :
  Calls Tryz.prog 89 #[.int .i64 r] w fun e w'=>e=.returned (.bool (dom r))∧w=w':=by
 go_enter Tryz.func89,Tryz.ntmps89
 go_wp2
 all_goals go_ret
 all_goals exact ⟨ret_bool (by unfold dom;rw [Bool.eq_iff_iff];simp;omega),rfl⟩
theorem word_any (r:Int) (w:World) :
  Calls Tryz.prog 106 #[.int .i64 r] w fun e w'=>e=.returned (.bool (word r))∧w=w':=by
 go_enter Tryz.func106,Tryz.ntmps106
 go_wp2
 all_goals go_ret
 all_goals exact ⟨ret_bool (by unfold word;rw [Bool.eq_iff_iff];simp;omega),rfl⟩
end Go.Proofs.YtgkclnmmjedmkaaGreat
