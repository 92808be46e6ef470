/-
  The contracts of the small functions that all statements use. No condition.
-/
import Derived.Test.YtbhocahmhmafmaaGreatPBaseBy

