/- The plain statement of FrameGets over the printed functions stands in the text that is imported. -/
import Derived.Test.YtdpgdnbknmncfaaDoorPlainG
