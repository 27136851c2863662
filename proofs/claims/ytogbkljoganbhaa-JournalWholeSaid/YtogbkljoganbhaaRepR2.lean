/- Entries, steps that come in, and the law on journals as a whole. -/
import Derived.Test.YtogbkljoganbhaaRepR
import Derived.Test.YtogbkljoganbhaaRep6
