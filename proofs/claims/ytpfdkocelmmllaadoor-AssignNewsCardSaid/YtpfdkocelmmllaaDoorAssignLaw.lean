/-
  What the assignment's laws share.
-/
import Derived.Test.YtpfdkocelmmllaaDoorAssignW3
import Derived.Test.YtpfdkocelmmllaaDoorRefFcd
import Derived.Test.YtpfdkocelmmllaaDoorInstLaw
import Derived.Test.YtpfdkocelmmllaaDoorAssignW2
import Derived.Test.YtpfdkocelmmllaaDoorTab
